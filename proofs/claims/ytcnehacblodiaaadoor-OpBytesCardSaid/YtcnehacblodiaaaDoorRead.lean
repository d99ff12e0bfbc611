/- Contracts of the package op, fourth part: the command that bytes are. No condition. -/
import Derived.Test.YtcnehacblodiaaaDoorCmds
import Derived.Test.YtcnehacblodiaaaDoorPithd
import Derived.Test.YtcnehacblodiaaaDoorStructs
import Derived.Test.YtcnehacblodiaaaDoorBlk
set_option linter.unusedVariables false
namespace Go.Proofs.YtcnehacblodiaaaDoor
open Go.RowKit

abbrev Most : Int := 281474976710655
/-- an operation's reading, from its k-th part on -/
def rO6 (d v : Int) (p t : List UInt8) (s : Bool) (x : RS) : OpT × RS := (⟨d, p, t, v - 1, s, (rf x).1⟩, (rf x).2)
def rO5 (d v : Int) (p t : List UInt8) (x : RS) : OpT × RS := rO6 d v p t (rf x).1 (rf x).2
def rO4 (d v : Int) (p : List UInt8) (x : RS) : OpT × RS := rO5 d v p (rt x 61).1 (rt x 61).2
def rO3 (d v : Int) (x : RS) : OpT × RS := rO4 d v (rt x 60).1 (rt x 60).2
def rO2 (d : Int) (x : RS) : OpT × RS := rO3 d (rn x 281474976710655).1 (rn x 281474976710655).2
def rOp (x : RS) : OpT × RS := rO2 (rn x 4).1 (rn x 4).2
def rOps : Nat → RS → List OpT × RS
  | 0, x => ([], x)
  | n + 1, x => ((rOps n x).1 ++ [(rOp (rOps n x).2).1], (rOp (rOps n x).2).2)
/-- a command's reading, from its k-th part on -/
def rC9 (k se rq no : Int) (os : List OpT) (p : List UInt8) (ki : Bool) (x : RS) : CmdT × RS := (⟨k, se, rq, no, os, p, ki, (rf x).1⟩, (rf x).2)
def rC8 (k se rq no : Int) (os : List OpT) (p : List UInt8) (x : RS) : CmdT × RS := rC9 k se rq no os p (rf x).1 (rf x).2
def rC7 (k se rq no : Int) (os : List OpT) (x : RS) : CmdT × RS := rC8 k se rq no os (rt x 60).1 (rt x 60).2
def rC6 (k se rq no n : Int) (x : RS) : CmdT × RS := rC7 k se rq no (rOps n.toNat x).1 (rOps n.toNat x).2
def rC5 (k se rq no : Int) (x : RS) : CmdT × RS := rC6 k se rq no (rn x 4).1 (rn x 4).2
def rC4 (k se rq : Int) (x : RS) : CmdT × RS := rC5 k se rq (rn x 281474976710655).1 (rn x 281474976710655).2
def rC3 (k se : Int) (x : RS) : CmdT × RS := rC4 k se (rn x 281474976710655).1 (rn x 281474976710655).2
def rC2 (k : Int) (x : RS) : CmdT × RS := rC3 k (rn x 281474976710655).1 (rn x 281474976710655).2
def rCmd (x : RS) : CmdT × RS := rC2 (rn x 5).1 (rn x 5).2
def noCmd : CmdT := ⟨0, 0, 0, 0, [], [], false, false⟩
def readF (s : List UInt8) : CmdT × Int :=
  if rdone (rCmd (s, false)).2 ≠ 0 ∨ cmdR (rCmd (s, false)).1 = false ∨ 488 < s.length then (noCmd, 2) else ((rCmd (s, false)).1, 0)

theorem rf_le (x : RS) : (rf x).2.1.length ≤ x.1.length := by
  unfold rf
  split
  · exact tk_le x 1
  · split
    · simp [fl]
    · exact tk_le x 1
theorem rOps_length (n : Nat) (x : RS) : (rOps n x).1.length = n := by
  induction n with
  | zero => rfl
  | succ n ih => simp [rOps, ih]
theorem rOp_le (x : RS) : (rOp x).2.1.length ≤ x.1.length := by
  unfold rOp rO2 rO3 rO4 rO5 rO6
  simp only
  refine Nat.le_trans (rf_le _) (Nat.le_trans (rf_le _) (Nat.le_trans (rt_le _ _) (Nat.le_trans (rt_le _ _) (Nat.le_trans (rn_le _ _) (rn_le _ _)))))
theorem rOps_le (n : Nat) (x : RS) : (rOps n x).2.1.length ≤ x.1.length := by
  induction n with
  | zero => exact Nat.le_refl _
  | succ n ih => exact Nat.le_trans (rOp_le _) ih

theorem rOps_ok (n : Nat) (x : RS) : ∀ o ∈ (rOps n x).1, OpOk o := by
  induction n with
  | zero => intro o h; simp [rOps] at h
  | succ n ih =>
    intro o h
    simp only [rOps, List.mem_append, List.mem_singleton] at h
    rcases h with h | rfl
    · exact ih o h
    · have h1 := rt_len (rn (rn (rOps n x).2 4).2 281474976710655).2 60 (by decide)
      have h2 := rt_len (rt (rn (rn (rOps n x).2 4).2 281474976710655).2 60).2 61 (by decide)
      unfold OpOk rOp rO2 rO3 rO4 rO5 rO6
      simp only
      omega
theorem slO : Sl Tryd.prog 23 35 6 56 (.agg #[.int .i64 0, .string ⟨#[]⟩, .string ⟨#[]⟩, .int .i64 0, .bool false, .bool false]) := .mk' Tryd.underlying23 (by kernel_rfl) rfl (by decide)

/-- what stands while a command is read: the command's block, its operations' row, the reader, the result's block -/
structure RI (w wr : World) (cb r : Nat) (cs : Array Value) (v : Value) (k : Nat) (os : List OpT) (x : RS) : Prop where
  c : Blk wr cb 25 cs
  row : Row wr 35 6 v k (os.flatMap opC)
  rd : Rd wr r x
  z : Blk wr w.heap.size 25 #[.int .i64 0, .int .i64 0, .int .i64 0, .int .i64 0, .slice none 0 0, .string ⟨#[]⟩, .bool false, .bool false]
  keeps : Keeps (fun _ => False) w wr
  rc : r < cb
  wr : w.heap.size < r
theorem RI.step {w wr w' : World} {cb r : Nat} {cs : Array Value} {v : Value} {k : Nat} {os : List OpT} {x x' : RS} (h : RI w wr cb r cs v k os x) (hR : Rd w' r x') (hk : Keeps (fun k => k = r) wr w') : RI w w' cb r cs v k os x' :=
  ⟨h.c.kept hk (by have := h.rc; omega), h.row.kept hk (fun g hg e => by
    subst e
    exact h.row.ne_ h.rd (fun cur e => by injection e with _ e; exact absurd e (by decide)) hg), hR, h.z.kept hk (by have := h.wr; omega),
    h.keeps.trans hk (fun i hi e => by have := h.wr; omega), h.rc, h.wr⟩
theorem RI.alloc {w wr : World} {cb r : Nat} {cs : Array Value} {v : Value} {k : Nat} {os : List OpT} {x : RS} (h : RI w wr cb r cs v k os x) (o : Obj) : RI w (wr.alloc o) cb r cs v k os x :=
  ⟨h.c.alloc o, Row.alloc h.row o, heap_old h.rd, h.z.alloc o, h.keeps.alloc o, h.rc, h.wr⟩
/-- a store into another block -/
theorem RI.far {w wr : World} {cb r : Nat} {cs : Array Value} {v : Value} {k : Nat} {os : List OpT} {x : RS} (h : RI w wr cb r cs v k os x) {b : Nat} {cs' : Array Value} {e : TypeId} (hb : Blk wr b e cs') (hbc : cb < b) (he : e ≠ 35 ∨ v.ownBlock ≠ some b) (i : Nat) (u : Value) : RI w (wr.setCell ⟨b, i, none⟩ u) cb r cs v k os x := by
  have hk : Keeps (fun k => k = b) wr (wr.setCell ⟨b, i, none⟩ u) := (Keeps.refl (fun k => k = b) wr).setCell (p := ⟨b, i, none⟩) (fun _ => rfl) u
  have h1 := h.rc
  have h2 := h.wr
  refine ⟨h.c.kept hk (by omega), h.row.kept hk (fun g hg e' => ?_), h.rd.kept hk (by omega), h.z.kept hk (by omega), h.keeps.trans hk (fun i hi e => by omega), h.rc, h.wr⟩
  subst e'
  rcases he with he | he
  · exact h.row.ne_ hb (fun cur e' => by injection e' with _ e'; exact he e') hg
  · exact he hg
/-- a store into the command's block -/
theorem RI.setc {w wr : World} {cb r : Nat} {cs : Array Value} {v : Value} {k : Nat} {os : List OpT} {x : RS} (h : RI w wr cb r cs v k os x) (i : Nat) (u : Value) : RI w (wr.setCell ⟨cb, i, none⟩ u) cb r (cs.setIfInBounds i u) v k os x := by
  have hk : Keeps (fun k => k = cb) wr (wr.setCell ⟨cb, i, none⟩ u) := (Keeps.refl (fun k => k = cb) wr).setCell (p := ⟨cb, i, none⟩) (fun _ => rfl) u
  have h1 := h.rc
  have h2 := h.wr
  exact ⟨h.c.set i u, h.row.kept hk (fun g hg e' => by
    subst e'
    exact h.row.ne_ h.c (fun cur e' => by injection e' with _ e'; exact absurd e' (by decide)) hg), h.rd.kept hk (by omega), h.z.kept hk (by omega), h.keeps.trans hk (fun i hi e => by omega), h.rc, h.wr⟩
/-- an append -/
theorem RI.grew {w wr w' : World} {cb r : Nat} {cs : Array Value} {v v' : Value} {k k' : Nat} {os os' : List OpT} {x : RS} (h : RI w wr cb r cs v k os x) (hnew : ∀ g, v.ownBlock = some g → w.heap.size ≤ g) (hg : Grew wr v w' v') (hr : Row w' 35 6 v' k' (os'.flatMap opC)) : RI w w' cb r cs v' k' os' x :=
  ⟨h.c.kept hg.keeps (h.row.ne_ h.c (fun cur e' => by injection e' with _ e'; exact absurd e' (by decide))), hr, h.rd.kept hg.keeps (h.row.ne_ h.rd (fun cur e' => by injection e' with _ e'; exact absurd e' (by decide))),
    h.z.kept hg.keeps (h.row.ne_ h.z (fun cur e' => by injection e' with _ e'; exact absurd e' (by decide))), h.keeps.trans hg.keeps (fun i hi e => by have := hnew i e; omega), h.rc, h.wr⟩

set_option maxRecDepth 100000 in
set_option maxHeartbeats 2000000 in
theorem read_cmd (w : World) (s : List UInt8) (hs : s.length ≤ 9223372036854775807) :
    Calls Tryd.prog 21 #[.string (S s)] w fun e w' => ∃ A cap, e = .returned (.tuple #[cmdV (readF s).1 A cap, .int .i64 (readF s).2]) ∧ OpSrc w' A (readF s).1.ops ∧ Keeps (fun _ => False) w w' := by
  go_enter Tryd.func21, Tryd.ntmps21
  go_wp2_with fail
  refine (read_reads _ s).mono ?_
  rintro e w1 ⟨rfl, rfl⟩
  go_wp2_with fail
  refine (num_reads _ _ 5 (s, false) hs (by exact heap_new (by simp))).mono ?_
  rintro e w2 ⟨rfl, hR, hk⟩
  have HZ := hide (Blk.kept (F := fun k => k = w.heap.size + 1) ((Blk.new rfl).alloc _) hk (by omega))
  have HK := hide ((((Keeps.refl (fun _ => False) w).alloc _).alloc _).trans hk (fun i hi e => by omega))
  have hsz : w.heap.size + 1 < w2.heap.size := hR.lt
  have HR := hide hR
  clear hR hk
  have HE : Hid (readF s = if rdone (rCmd (s, false)).2 ≠ 0 ∨ cmdR (rCmd (s, false)).1 = false ∨ 488 < s.length then (noCmd, 2) else ((rCmd (s, false)).1, 0)) := rfl
  have EC : Hid (rCmd (s, false) = rC2 (rn (s, false) 5).1 (rn (s, false) 5).2) := rfl
  have hl := rn_le (s, false) 5
  generalize hr : w.heap.size + 1 = r at *
  generalize rn (s, false) 5 = a0 at *
  have HL : a0.2.1.length ≤ 9223372036854775807 := Nat.le_trans hl hs
  have hwr : w.heap.size < r := by omega
  clear hr hl
  go_wp2_with fail
  refine (num_reads _ _ _ a0.2 HL HR.out).mono ?_
  rintro e w3 ⟨rfl, hR, hk⟩
  replace HR := hide hR
  replace HZ := hide (HZ.out.kept hk (by omega))
  replace HK := hide (HK.out.trans hk (fun i hi e => by omega))
  have hsz3 := hk.size
  replace EC : Hid (rCmd (s, false) = rC3 a0.1 (rn a0.2 281474976710655).1 (rn a0.2 281474976710655).2) := EC.out
  have hl := rn_le a0.2 281474976710655
  generalize rn a0.2 281474976710655 = a1 at *
  replace HL : a1.2.1.length ≤ 9223372036854775807 := Nat.le_trans hl HL
  clear hR hk hl
  go_wp2_with fail
  refine (num_reads _ _ _ a1.2 HL HR.out).mono ?_
  rintro e w4 ⟨rfl, hR, hk⟩
  replace HR := hide hR
  replace HZ := hide (HZ.out.kept hk (by omega))
  replace HK := hide (HK.out.trans hk (fun i hi e => by omega))
  have hsz4 := hk.size
  replace EC : Hid (rCmd (s, false) = rC4 a0.1 a1.1 (rn a1.2 281474976710655).1 (rn a1.2 281474976710655).2) := EC.out
  have hl := rn_le a1.2 281474976710655
  generalize rn a1.2 281474976710655 = a2 at *
  replace HL : a2.2.1.length ≤ 9223372036854775807 := Nat.le_trans hl HL
  clear hR hk hl
  go_wp2_with fail
  refine (num_reads _ _ _ a2.2 HL HR.out).mono ?_
  rintro e w5 ⟨rfl, hR, hk⟩
  replace HR := hide hR
  replace HZ := hide (HZ.out.kept hk (by omega))
  replace HK := hide (HK.out.trans hk (fun i hi e => by omega))
  have hsz5 := hk.size
  replace EC : Hid (rCmd (s, false) = rC5 a0.1 a1.1 a2.1 (rn a2.2 281474976710655).1 (rn a2.2 281474976710655).2) := EC.out
  have hl := rn_le a2.2 281474976710655
  generalize rn a2.2 281474976710655 = a3 at *
  replace HL : a3.2.1.length ≤ 9223372036854775807 := Nat.le_trans hl HL
  clear hR hk hl
  go_wp2_with fail
  refine (num_reads _ _ _ a3.2 HL (HR.out.kept ((Keeps.refl (fun _ => False) _).alloc _) (fun h => h))).mono ?_
  rintro e w6 ⟨rfl, hR, hk⟩
  generalize hcb : w5.heap.size = cb at *
  replace HR := hide hR
  have HC := hide (Blk.kept (Blk.new hcb.symm) hk (by omega))
  replace HZ := hide ((HZ.out.alloc _).kept hk (by omega))
  replace HK := hide ((HK.out.alloc _).trans hk (fun i hi e => by omega))
  have hsz6 : cb < w6.heap.size := HC.out.lt
  replace EC : Hid (rCmd (s, false) = rC6 a0.1 a1.1 a2.1 a3.1 (rn a3.2 4).1 (rn a3.2 4).2) := EC.out
  have hl := rn_le a3.2 4
  have n4l := rn_lo a3.2 4
  have n4h := rn_hi a3.2 4 (by decide)
  generalize rn a3.2 4 = a4 at *
  obtain ⟨n4, x4⟩ := a4
  obtain ⟨n, rfl⟩ := Int.eq_ofNat_of_zero_le n4l
  replace HL : x4.1.length ≤ 9223372036854775807 := Nat.le_trans hl HL
  have hrc : r < cb := by omega
  have hwc : w.heap.size < cb := by omega
  have hn4 : n ≤ 4 := by simp only at n4h; omega
  clear hR hk hl n4l n4h hcb hsz3 hsz4 hsz5 hsz
  simp only at HR
  replace EC : Hid (rCmd (s, false) = rC7 a0.1 a1.1 a2.1 a3.1 (rOps n x4).1 (rOps n x4).2) := EC.out
  generalize a0.1 = A0 at *
  generalize a1.1 = A1 at *
  generalize a2.1 = A2 at *
  generalize a3.1 = A3 at *
  go_wp2_with fail
  have HI : Hid (RI w w6 cb r #[.int .i64 A0, .int .i64 A1, .int .i64 A2, .int .i64 A3, .slice none 0 0, .string ⟨#[]⟩, .bool false, .bool false] (.slice none 0 0) 0 [] x4) := ⟨HC.out, Row.nil _ _ _, HR.out, HZ.out, HK.out, hrc, hwr⟩
  clear HC HR HZ HK
  go_loopw [20] (fun i wr => ∃ k : Nat, k ≤ n ∧ i = .int .i64 k ∧ ∃ v, RI w wr cb r #[.int .i64 A0, .int .i64 A1, .int .i64 A2, .int .i64 A3, v, .string ⟨#[]⟩, .bool false, .bool false] v k (rOps k x4).1 (rOps k x4).2 ∧ (∀ g, v.ownBlock = some g → w.heap.size ≤ g)) (fun i _ => n - (intOf i).toNat)
  case atStart => exact ⟨0, by omega, rfl, _, HI.out, fun g h => by simp [Value.ownBlock] at h⟩
  case round =>
    clear HI
    obtain ⟨k, hk, rfl, v, hI, hnew⟩ := hrel
    have hlx : (rOps k x4).2.1.length ≤ 9223372036854775807 := Nat.le_trans (rOps_le k x4) HL
    have HI := hide hI
    have HN := hide hnew
    clear hI hnew
    by_cases hlt : k < n
    · have EO : Hid (rOps (k + 1) x4 = ((rOps k x4).1 ++ [(rOp (rOps k x4).2).1], (rOp (rOps k x4).2).2)) := rfl
      generalize rOps k x4 = X at *
      obtain ⟨os, x⟩ := X
      simp only at hlx HI EO
      have E : Hid (rOp x = rO2 (rn x 4).1 (rn x 4).2) := rfl
      go_wp2_with fail
      refine (num_reads _ _ _ x hlx HI.out.rd).mono ?_
      rintro e v1 ⟨rfl, hR, hk⟩
      replace HI := hide (HI.out.step hR hk)
      
      have hl := rn_le x 4
      generalize rn x 4 = b1 at *
      replace hlx := Nat.le_trans hl hlx
      clear hR hk hl
      go_wp2_with fail
      refine (num_reads _ _ _ b1.2 hlx HI.out.rd).mono ?_
      rintro e v2 ⟨rfl, hR, hk⟩
      replace HI := hide (HI.out.step hR hk)
      replace E : Hid (rOp x = rO3 b1.1 (rn b1.2 281474976710655).1 (rn b1.2 281474976710655).2) := E.out
      have hl := rn_le b1.2 281474976710655
      have hv1 := rn_lo b1.2 281474976710655
      have hv2 := rn_hi b1.2 281474976710655 (by decide)
      generalize rn b1.2 281474976710655 = b2 at *
      replace hlx := Nat.le_trans hl hlx
      clear hR hk hl
      go_upto_region 6 with fail
      have hob := HI.out.c.lt
      have hvob : v.ownBlock ≠ some v2.heap.size := fun e => by have := HI.out.row.lt e; omega
      replace HI := hide (HI.out.alloc (.cells #[.int .i64 b1.1, .string ⟨#[]⟩, .string ⟨#[]⟩, .int .i64 (b2.1 - 1), .bool false, .bool false] 35))
      have HB : Hid (Blk (v2.alloc (.cells #[.int .i64 b1.1, .string ⟨#[]⟩, .string ⟨#[]⟩, .int .i64 (b2.1 - 1), .bool false, .bool false] 35)) v2.heap.size 35 #[.int .i64 b1.1, .string ⟨#[]⟩, .string ⟨#[]⟩, .int .i64 (b2.1 - 1), .bool false, .bool false]) := Blk.new rfl
      generalize v2.heap.size = ob at *
      go_cut [] (fun wx => RI w wx cb r #[.int .i64 A0, .int .i64 A1, .int .i64 A2, .int .i64 A3, v, .string ⟨#[]⟩, .bool false, .bool false] v k os (rOp x).2 ∧ Blk wx ob 35 #[.int .i64 (rOp x).1.does, .string (S (rOp x).1.path), .string (S (rOp x).1.data), .int .i64 (rOp x).1.version, .bool (rOp x).1.serial, .bool (rOp x).1.own])
      case first =>
        go_wp2_with fail
        refine (text_reads _ _ _ b2.2 hlx HI.out.rd).mono ?_
        rintro e v3 ⟨rfl, hR, hk⟩
        replace HI := hide (HI.out.step hR hk)
        replace HB := hide (HB.out.kept hk (by omega))
        replace E : Hid (rOp x = rO4 b1.1 b2.1 (rt b2.2 60).1 (rt b2.2 60).2) := E.out
        have hl := rt_le b2.2 60
        generalize rt b2.2 60 = b3 at *
        replace hlx := Nat.le_trans hl hlx
        clear hR hk hl
        go_wp2_with fail
        refine (text_reads _ _ _ b3.2 hlx HI.out.rd).mono ?_
        rintro e v4 ⟨rfl, hR, hk⟩
        replace HI := hide (HI.out.step hR hk)
        replace HB := hide (HB.out.kept hk (by omega))
        replace E : Hid (rOp x = rO5 b1.1 b2.1 b3.1 (rt b3.2 61).1 (rt b3.2 61).2) := E.out
        have hl := rt_le b3.2 61
        generalize rt b3.2 61 = b4 at *
        replace hlx := Nat.le_trans hl hlx
        clear hR hk hl
        go_wp2_with fail
        refine (flag_reads _ _ b4.2 hlx HI.out.rd).mono ?_
        rintro e v5 ⟨rfl, hR, hk⟩
        replace HI := hide (HI.out.step hR hk)
        replace HB := hide (HB.out.kept hk (by omega))
        replace E : Hid (rOp x = rO6 b1.1 b2.1 b3.1 b4.1 (rf b4.2).1 (rf b4.2).2) := E.out
        have hl := rf_le b4.2
        generalize rf b4.2 = b5 at *
        replace hlx := Nat.le_trans hl hlx
        clear hR hk hl
        go_wp2_with fail
        refine (flag_reads _ _ b5.2 hlx HI.out.rd).mono ?_
        rintro e v6 ⟨rfl, hR, hk⟩
        replace HI := hide (HI.out.step hR hk)
        replace HB := hide (HB.out.kept hk (by omega))
        replace E : Hid (rOp x = (⟨b1.1, b3.1, b4.1, b2.1 - 1, b5.1, (rf b5.2).1⟩, (rf b5.2).2)) := E.out
        generalize rf b5.2 = b6 at *
        clear hR hk
        have p1 := HB.out.cell 1 _ rfl
        have p2 := HB.out.cell 2 _ rfl
        have p4 := HB.out.cell 4 _ rfl
        have p5 := HB.out.cell 5 _ rfl
        have f1 := HB.out.fz 1
        have f2 := HB.out.fz 2
        have f4 := HB.out.fz 4
        have f5 := HB.out.fz 5
        go_wp2_with fail
        go_meet
        case rel =>
          rw [E.out]
          have hB1 := HB.out.set 1 (.string (S b3.1))
          have hB2 := hB1.set 2 (.string (S b4.1))
          have hB4 := hB2.set 4 (.bool b5.1)
          exact ⟨(((HI.out.far HB.out hob (.inr hvob) 1 _).far hB1 hob (.inr hvob) 2 _).far hB2 hob (.inr hvob) 4 _).far hB4 hob (.inr hvob) 5 _, hB4.set 5 (.bool b6.1)⟩
      case rest =>
        obtain ⟨hI, hB⟩ := hcut
        have HI2 := hide hI
        have HB2 := hide hB
        clear HI HB hI hB E hlx
        generalize rOp x = Z at *
        obtain ⟨o, x'⟩ := Z
        simp only at HI2 HB2 EO
        have p0 : wc.cell? ⟨ob, 0, none⟩ = some (.int .i64 o.does) := HB2.out.cell 0 _ rfl
        have p1 : wc.cell? ⟨ob, 1, none⟩ = some (.string (S o.path)) := HB2.out.cell 1 _ rfl
        have p2 : wc.cell? ⟨ob, 2, none⟩ = some (.string (S o.data)) := HB2.out.cell 2 _ rfl
        have p3 : wc.cell? ⟨ob, 3, none⟩ = some (.int .i64 o.version) := HB2.out.cell 3 _ rfl
        have p4 : wc.cell? ⟨ob, 4, none⟩ = some (.bool o.serial) := HB2.out.cell 4 _ rfl
        have p5 : wc.cell? ⟨ob, 5, none⟩ = some (.bool o.own) := HB2.out.cell 5 _ rfl
        have pc : wc.cell? ⟨cb, 4, none⟩ = some v := HI2.out.c.cell 4 _ rfl
        have hkl : k ≤ 4 := by omega
        go_wp2_with (at_builtin; go_must (refine wpList_app slO rfl (.tmp 41) (.tmp 43) rfl (Row.alloc HI2.out.row _) rfl (Src.block (heap_alloc_new _ _) 6 1 rfl) rfl (by simp [Value.oneCell']) (by unfold maxLen; omega) (by omega) ?_); intro v9 w9 hrow9 hg9; obtain ⟨A9, c9, e9, _, _, _, _⟩ := Row.form hrow9; subst e9; have hrow9' : Row w9 35 6 (.slice A9 (k + 1) c9) (k + 1) ((os ++ [o]).flatMap opC) := (by rw [List.flatMap_append]; simpa [opC] using hrow9); have hI9 := (HI2.out.alloc _).grew HN.out hg9 hrow9'; have pc9 : w9.cell? ⟨cb, 4, none⟩ = some v := hI9.c.cell 4 _ rfl; have pf9 := hI9.c.fz 4; have HI9 := hide hI9; have HG9 := hide hg9; clear hI9 hg9 hrow9 hrow9')
        go_roundw
        case rel =>
          refine ⟨k + 1, by omega, by go_num, .slice A9 (k + 1) c9, ?_, fun g hg => ?_⟩
          · rw [EO.out]
            exact HI9.out.setc 4 (.slice A9 (k + 1) c9)
          · rcases HG9.out.new g hg with h | h
            · exact HN.out g h
            · have := HI2.out.keeps.size
              simp at h
              omega
        case measure => simp [intOf]; omega
    · obtain rfl : k = n := by omega
      have HOL := rOps_length k x4
      have HOK := hide (rOps_ok k x4)
      generalize rOps k x4 = X at *
      obtain ⟨os, x⟩ := X
      simp only at hlx HI EC HOL HOK
      subst HOL
      go_upto_region 9 with fail
      go_cut [] (fun wx => ∃ p ki o x', rCmd (s, false) = (⟨A0, A1, A2, A3, os, p, ki, o⟩, x') ∧ p.length ≤ 60 ∧ RI w wx cb r #[.int .i64 A0, .int .i64 A1, .int .i64 A2, .int .i64 A3, v, .string (S p), .bool ki, .bool o] v os.length os x')
      case first =>
        go_wp2_with fail
        refine (text_reads _ _ _ x hlx HI.out.rd).mono ?_
        rintro e v3 ⟨rfl, hR, hk⟩
        replace HI := hide (HI.out.step hR hk)
        replace EC : Hid (rCmd (s, false) = rC8 A0 A1 A2 A3 os (rt x 60).1 (rt x 60).2) := EC.out
        have hl := rt_le x 60
        have hp60 := rt_len x 60 (by decide)
        generalize rt x 60 = b3 at *
        replace hlx := Nat.le_trans hl hlx
        clear hR hk hl
        go_wp2_with fail
        refine (flag_reads _ _ b3.2 hlx HI.out.rd).mono ?_
        rintro e v4 ⟨rfl, hR, hk⟩
        replace HI := hide (HI.out.step hR hk)
        replace EC : Hid (rCmd (s, false) = rC9 A0 A1 A2 A3 os b3.1 (rf b3.2).1 (rf b3.2).2) := EC.out
        have hl := rf_le b3.2
        generalize rf b3.2 = b4 at *
        replace hlx := Nat.le_trans hl hlx
        clear hR hk hl
        go_wp2_with fail
        refine (flag_reads _ _ b4.2 hlx HI.out.rd).mono ?_
        rintro e v5 ⟨rfl, hR, hk⟩
        replace HI := hide (HI.out.step hR hk)
        replace EC : Hid (rCmd (s, false) = (⟨A0, A1, A2, A3, os, b3.1, b4.1, (rf b4.2).1⟩, (rf b4.2).2)) := EC.out
        generalize rf b4.2 = b5 at *
        clear hR hk
        have p1 := HI.out.c.cell 5 _ rfl
        have p2 := HI.out.c.cell 6 _ rfl
        have p4 := HI.out.c.cell 7 _ rfl
        have f1 := HI.out.c.fz 5
        have f2 := HI.out.c.fz 6
        have f4 := HI.out.c.fz 7
        go_wp2_with fail
        go_meet
        case rel =>
          exact ⟨b3.1, b4.1, b5.1, b5.2, EC.out, by omega, ((HI.out.setc 5 (.string (S b3.1))).setc 6 (.bool b4.1)).setc 7 (.bool b5.1)⟩
      case rest =>
        obtain ⟨p, ki, o, x', eC, hp, hI⟩ := hcut
        obtain ⟨A, cap, hv, _, _, hsrc, hAd⟩ := Row.form hI.row
        subst hv
        have HAd : Hid (∀ ad, A = some ad → ad.block ≠ w.heap.size) := fun ad e e2 => by
          have := (hAd ad e).1
          rw [e2] at this
          exact hI.row.ne_ hI.z (fun cur e' => by injection e' with _ e'; exact absurd e' (by decide)) this
        clear hAd
        rw [eC] at HE
        clear HI EC eC hlx HL
        have HI := hide hI
        have HS := hide hsrc
        clear hI hsrc
        have hok : CmdOk ⟨A0, A1, A2, A3, os, p, ki, o⟩ := ⟨by simp only; omega, by simp only; omega, HOK.out⟩
        have HKO := hide hok
        clear hok
        have q0 : wc.cell? ⟨cb, 0, none⟩ = some (.int .i64 A0) := HI.out.c.cell 0 _ rfl
        have q1 : wc.cell? ⟨cb, 1, none⟩ = some (.int .i64 A1) := HI.out.c.cell 1 _ rfl
        have q2 : wc.cell? ⟨cb, 2, none⟩ = some (.int .i64 A2) := HI.out.c.cell 2 _ rfl
        have q3 : wc.cell? ⟨cb, 3, none⟩ = some (.int .i64 A3) := HI.out.c.cell 3 _ rfl
        have q4 : wc.cell? ⟨cb, 4, none⟩ = some (.slice A os.length cap) := HI.out.c.cell 4 _ rfl
        have q5 : wc.cell? ⟨cb, 5, none⟩ = some (.string (S p)) := HI.out.c.cell 5 _ rfl
        have q6 : wc.cell? ⟨cb, 6, none⟩ = some (.bool ki) := HI.out.c.cell 6 _ rfl
        have q7 : wc.cell? ⟨cb, 7, none⟩ = some (.bool o) := HI.out.c.cell 7 _ rfl
        go_wp2_with fail
        refine (done_reads _ _ _ HI.out.rd).mono ?_
        by_cases hd : rdone x' ≠ 0
        · have hE : readF s = (noCmd, 2) := by rw [HE.out, if_pos (.inl hd)]
          have E := hide hE
          have hd2 : (rdone x' != 0) = true := by simpa using hd
          clear hE hd
          rintro e w7 ⟨rfl, rfl⟩
          go_wp2_with ((show Go.wpList _ _ _ (Oper.mk none (Op.store _ _ _) _ _ _ _ :: _) _ _); refine wpList_store_row rfl _ (.tmp 2) (.tmp 69) rfl w.heap.size _ rfl rfl _ _ HI.out.z (by kernel_rfl) rfl (by simp [Value.oneCell']) ?_)
          refine bodyPost_ret (results_row_tmp Tryd.results21 _ _ w.heap.size _ _ _ _ rfl (setRow_heap _ _ _ _ _ _ HI.out.z) Tryd.underlying25 rfl (by kernel_rfl)) rfl ?_
          exact ⟨none, 0, by rw [E.out]; rfl, by rw [E.out]; exact Src.nil _ _ _, HI.out.keeps.trans (keeps_setRow _ _ _) (fun i hi e => by omega)⟩
        · have hd1 : rdone x' = 0 := by simpa using hd
          have hd2 : (rdone x' != 0) = false := by simp [hd1]
          rintro e w7 ⟨rfl, rfl⟩
          have hr := right_cmd wc ⟨A0, A1, A2, A3, os, p, ki, o⟩ A cap HS.out HKO.out
          by_cases hc : cmdR ⟨A0, A1, A2, A3, os, p, ki, o⟩ = true ∧ s.length ≤ 488
          · obtain ⟨hc1, hc2⟩ := hc
            have E : Hid (readF s = (⟨A0, A1, A2, A3, os, p, ki, o⟩, 0)) := by
              show _ = _
              rw [HE.out, if_neg]
              rintro (h | h | h)
              · exact h hd1
              · rw [hc1] at h; cases h
              · omega
            rw [hc1] at hr
            clear hd hd1 hc1
            go_wp2_with fail
            refine hr.mono ?_
            rintro e w8 ⟨rfl, hk8⟩
            have hz8 := HI.out.z.kept hk8 (fun h => h)
            have q0 : w8.cell? ⟨cb, 0, none⟩ = some (.int .i64 A0) := (HI.out.c.kept hk8 (fun h => h)).cell 0 _ rfl
            have q1 : w8.cell? ⟨cb, 1, none⟩ = some (.int .i64 A1) := (HI.out.c.kept hk8 (fun h => h)).cell 1 _ rfl
            have q2 : w8.cell? ⟨cb, 2, none⟩ = some (.int .i64 A2) := (HI.out.c.kept hk8 (fun h => h)).cell 2 _ rfl
            have q3 : w8.cell? ⟨cb, 3, none⟩ = some (.int .i64 A3) := (HI.out.c.kept hk8 (fun h => h)).cell 3 _ rfl
            have q4 : w8.cell? ⟨cb, 4, none⟩ = some (.slice A os.length cap) := (HI.out.c.kept hk8 (fun h => h)).cell 4 _ rfl
            have q5 : w8.cell? ⟨cb, 5, none⟩ = some (.string (S p)) := (HI.out.c.kept hk8 (fun h => h)).cell 5 _ rfl
            have q6 : w8.cell? ⟨cb, 6, none⟩ = some (.bool ki) := (HI.out.c.kept hk8 (fun h => h)).cell 6 _ rfl
            have q7 : w8.cell? ⟨cb, 7, none⟩ = some (.bool o) := (HI.out.c.kept hk8 (fun h => h)).cell 7 _ rfl
            have HZ8 := hide hz8
            have HK8 := hide hk8
            clear hz8 hk8 hr
            go_wp2_with ((show Go.wpList _ _ _ (Oper.mk none (Op.store _ _ _) _ _ _ _ :: _) _ _); refine wpList_store_row rfl _ (.tmp 2) (.tmp 70) rfl w.heap.size _ rfl rfl _ _ HZ8.out (by kernel_rfl) rfl (by simp [Value.oneCell']) ?_)
            refine bodyPost_ret (results_row_tmp Tryd.results21 _ _ w.heap.size _ _ _ _ rfl (setRow_heap _ _ _ _ _ _ HZ8.out) Tryd.underlying25 rfl (by kernel_rfl)) rfl ?_
            refine ⟨A, cap, by rw [E.out]; rfl, ?_, (HI.out.keeps.trans' HK8.out).trans (keeps_setRow _ _ _) (fun i hi e => by omega)⟩
            rw [E.out]
            exact (HS.out.keep HK8.out (fun _ _ h => h)).keep (keeps_setRow _ _ _) (fun ad e h => HAd.out ad e h)
          · have E : Hid (readF s = (noCmd, 2)) := by
              show _ = _
              rw [HE.out, if_pos]
              by_cases h1 : cmdR ⟨A0, A1, A2, A3, os, p, ki, o⟩ = true
              · right; right; have : ¬ s.length ≤ 488 := fun h => hc ⟨h1, h⟩; omega
              · right; left; simpa using h1
            clear hd hd1
            cases hc1 : cmdR ⟨A0, A1, A2, A3, os, p, ki, o⟩
            · rw [hc1] at hr
              clear hc hc1
              go_wp2_with fail
              refine hr.mono ?_
              rintro e w8 ⟨rfl, hk8⟩
              have HZ8 := hide (HI.out.z.kept hk8 (fun h => h))
              have HK8 := hide hk8
              clear hk8 hr
              go_wp2_with ((show Go.wpList _ _ _ (Oper.mk none (Op.store _ _ _) _ _ _ _ :: _) _ _); refine wpList_store_row rfl _ (.tmp 2) (.tmp 69) rfl w.heap.size _ rfl rfl _ _ HZ8.out (by kernel_rfl) rfl (by simp [Value.oneCell']) ?_)
              refine bodyPost_ret (results_row_tmp Tryd.results21 _ _ w.heap.size _ _ _ _ rfl (setRow_heap _ _ _ _ _ _ HZ8.out) Tryd.underlying25 rfl (by kernel_rfl)) rfl ?_
              exact ⟨none, 0, by rw [E.out]; rfl, by rw [E.out]; exact Src.nil _ _ _, (HI.out.keeps.trans' HK8.out).trans (keeps_setRow _ _ _) (fun i hi e => by omega)⟩
            · rw [hc1] at hr
              have hlen : 488 < s.length := by
                have : ¬ s.length ≤ 488 := fun h => hc ⟨hc1, h⟩
                omega
              clear hc hc1
              go_wp2_with fail
              refine hr.mono ?_
              rintro e w8 ⟨rfl, hk8⟩
              have HZ8 := hide (HI.out.z.kept hk8 (fun h => h))
              have HK8 := hide hk8
              clear hk8 hr
              go_wp2_with ((show Go.wpList _ _ _ (Oper.mk none (Op.store _ _ _) _ _ _ _ :: _) _ _); refine wpList_store_row rfl _ (.tmp 2) (.tmp 69) rfl w.heap.size _ rfl rfl _ _ HZ8.out (by kernel_rfl) rfl (by simp [Value.oneCell']) ?_)
              refine bodyPost_ret (results_row_tmp Tryd.results21 _ _ w.heap.size _ _ _ _ rfl (setRow_heap _ _ _ _ _ _ HZ8.out) Tryd.underlying25 rfl (by kernel_rfl)) rfl ?_
              exact ⟨none, 0, by rw [E.out]; rfl, by rw [E.out]; exact Src.nil _ _ _, (HI.out.keeps.trans' HK8.out).trans (keeps_setRow _ _ _) (fun i hi e => by omega)⟩

end Go.Proofs.YtcnehacblodiaaaDoor
