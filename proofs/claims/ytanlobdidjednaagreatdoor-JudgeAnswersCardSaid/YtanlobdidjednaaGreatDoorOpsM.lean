/- Contracts of the package op, first part: which operations and commands may be. No condition. Contracts of the package op, second part: a command: whether it may be. No condition. Contracts of the package op, third part: a command as bytes. No condition. Contracts of the package op, fourth part: the command that bytes are. No condition. Contracts of the package op, fifth part: whether two commands are the same; a command of operations. No condition. Contracts of the package op, results: as bytes, and back; the same. No condition. Contracts of the package op, results: the result that bytes are. No condition. Plain laws of the package op: what a writer lays a reader takes back, and what a reader took a writer lays. No condition. Results: what is written is read again; what is read was written so. No condition. -/
import Derived.Test.YtanlobdidjednaaGreatDoorPithM
import Derived.Deep.RegionHeld3
import Derived.Test.YtanlobdidjednaaGreatDoorLow
import Derived.Test.YtanlobdidjednaaGreatDoorTook
namespace Go.Proofs.YtanlobdidjednaaGreatDoor
section
set_option linter.unusedVariables false
open Go.RowKit

/-- an operation: does, path, data, version, serial, own -/
structure OpT where
  does : Int
  path : List UInt8
  data : List UInt8
  version : Int
  serial : Bool
  own : Bool
deriving DecidableEq
def opC (o : OpT) : List Value := [.int .i64 o.does, .string (S o.path), .string (S o.data), .int .i64 o.version, .bool o.serial, .bool o.own]
abbrev opV (o : OpT) : Value := .agg #[.int .i64 o.does, .string (S o.path), .string (S o.data), .int .i64 o.version, .bool o.serial, .bool o.own]

def opR (o : OpT) : Bool := decide (1 ≤ o.does) && decide (o.does ≤ 4) && decide (o.path.length ≤ 60) && decide (o.data.length ≤ 61) && decide (-1 ≤ o.version) && decide (o.version < 281474976710655)

set_option maxRecDepth 100000 in
theorem right_op (w : World) (o : OpT) (hp : o.path.length ≤ 9223372036854775807) (hd : o.data.length ≤ 9223372036854775807) :
    Calls Tryz.prog 51 #[opV o] w fun e w' => e = .returned (.bool (opR o)) ∧ w' = w.alloc (.cells #[.int .i64 o.does, .string (S o.path), .string (S o.data), .int .i64 o.version, .bool o.serial, .bool o.own] 71) := by
  obtain ⟨does, path, data, version, serial, own⟩ := o
  simp only at hp hd ⊢
  go_enter Tryz.func51, Tryz.ntmps51
  go_wp2_with fail
  all_goals
    go_ret
    refine ⟨congrArg (fun b => Ending.returned (.bool b)) ?_, rfl⟩
    rw [Bool.eq_iff_iff]
    simp [opR]
    try omega

/-- a list of operations, in memory -/
abbrev OpSrc (w : World) (A : Option Addr) (os : List OpT) : Prop := Src w 6 A os.length (os.flatMap opC)
theorem flat_at {α : Type} (f : α → List Value) (n : Nat) (hn : ∀ a, (f a).length = n) (l : List α) (k : Nat) (a : α) (h : l[k]? = some a) (j : Nat) (u : Value) (hj : (f a)[j]? = some u) : (l.flatMap f)[k * n + j]? = some u := by
  induction l generalizing k with
  | nil => simp at h
  | cons b r ih =>
    cases k with
    | zero =>
      simp only [List.getElem?_cons_zero, Option.some.injEq] at h
      subst h
      rw [List.flatMap_cons, Nat.zero_mul, Nat.zero_add, List.getElem?_append_left (List.getElem?_eq_some_iff.1 hj).1]
      exact hj
    | succ k =>
      simp only [List.getElem?_cons_succ] at h
      have := ih k h
      rw [List.flatMap_cons, List.getElem?_append_right (by rw [hn, Nat.succ_mul]; omega), ← this]
      congr 1
      rw [hn, Nat.succ_mul]
      omega
theorem ops_at {w : World} {A : Option Addr} {os : List OpT} (h : OpSrc w A os) {k : Nat} (hk : k < os.length) :
    ∃ ad o, A = some ad ∧ os[k]? = some o ∧ w.cell? (ad.add (k * 6)) = some (.int .i64 o.does) ∧ w.cell? ⟨(ad.add (k * 6)).block, (ad.add (k * 6)).off + 1, none⟩ = some (.string (S o.path)) ∧ w.cell? ⟨(ad.add (k * 6)).block, (ad.add (k * 6)).off + 2, none⟩ = some (.string (S o.data)) ∧
      w.cell? ⟨(ad.add (k * 6)).block, (ad.add (k * 6)).off + 3, none⟩ = some (.int .i64 o.version) ∧ w.cell? ⟨(ad.add (k * 6)).block, (ad.add (k * 6)).off + 4, none⟩ = some (.bool o.serial) ∧ w.cell? ⟨(ad.add (k * 6)).block, (ad.add (k * 6)).off + 5, none⟩ = some (.bool o.own) := by
  obtain ⟨ad, e, hc⟩ := h.2 (by omega)
  have ha := List.getElem?_eq_getElem hk
  have hf := flat_at opC 6 (fun _ => rfl) os k _ ha
  refine ⟨ad, os[k], e, ha, hc _ _ (hf 0 _ rfl), ?_, ?_, ?_, ?_, ?_⟩
  · rw [← add_succ, add_add]; exact hc _ _ (hf 1 _ rfl)
  · rw [← add_succ, add_add]; exact hc _ _ (hf 2 _ rfl)
  · rw [← add_succ, add_add]; exact hc _ _ (hf 3 _ rfl)
  · rw [← add_succ, add_add]; exact hc _ _ (hf 4 _ rfl)
  · rw [← add_succ, add_add]; exact hc _ _ (hf 5 _ rfl)

def OpOk (o : OpT) : Prop := o.path.length ≤ 9223372036854775807 ∧ o.data.length ≤ 9223372036854775807

theorem not_right (w : World) (o : OpT) (ho : OpOk o) :
    Calls Tryz.prog 50 #[opV o] w fun e w' => e = .returned (.bool (!opR o)) ∧ Keeps (fun _ => False) w w' := by
  have hr := fun w => right_op w o ho.1 ho.2
  obtain ⟨does, path, data, version, serial, own⟩ := o
  simp only at hr ⊢
  clear ho
  go_enter Tryz.func50, Tryz.ntmps50
  go_wp2_with fail
  refine (hr _).mono ?_
  rintro e w1 ⟨rfl, rfl⟩
  clear hr
  go_wp2_with fail
  go_ret
  exact ⟨rfl, ((Keeps.refl _ w).alloc _).alloc _⟩

def wrongF (os : List OpT) : Bool := os.any fun o => !opR o

set_option maxRecDepth 100000 in
theorem index_wrong (w : World) (A : Option Addr) (c : Nat) (os : List OpT) (h : OpSrc w A os) (hl : os.length ≤ 9223372036854775807) (ho : ∀ o ∈ os, OpOk o) :
    Calls Tryz.prog 71 #[.slice A os.length c, .func (.func 50) #[] #[]] w fun e w' => ∃ r : Int, e = .returned (.int .i64 r) ∧ decide (0 ≤ r) = wrongF os ∧ Keeps (fun _ => False) w w' := by
  have HO := hide ho
  clear ho
  go_enter Tryz.func71, Tryz.ntmps71
  go_wp2_with fail
  go_loopw [8] (fun i wr => ∃ k : Nat, k ≤ os.length ∧ i = .int .i64 k ∧ (∀ o ∈ os.take k, opR o = true) ∧ Keeps (fun _ => False) w wr) (fun i _ => os.length - (intOf i).toNat)
  case atStart => exact ⟨0, by omega, rfl, by simp, Keeps.refl _ _⟩
  case round =>
    obtain ⟨k, hk, rfl, hall, hK⟩ := hrel
    have HA := hide hall
    clear hall
    by_cases hlt : k < os.length
    · obtain ⟨ad, o, rfl, hx, c0, c1, c2, c3, c4, c5⟩ := ops_at (h.keep hK (fun _ _ h => h)) hlt
      have HX := hide hx
      have hok := HO.out o (List.mem_of_getElem? hx)
      clear hx
      go_wp2_with fail
      refine (not_right _ o hok).mono ?_
      cases hr : opR o
      · have HR := hide hr
        clear hr
        rintro e w1 ⟨rfl, hk1⟩
        go_wp2_with fail
        go_ret
        refine ⟨k, rfl, ?_, hK.trans' hk1⟩
        have e1 : wrongF os = true := by
          unfold wrongF
          rw [List.any_eq_true]
          exact ⟨o, List.mem_of_getElem? HX.out, by rw [HR.out]; rfl⟩
        rw [e1]
        simp
      · have HR := hide hr
        clear hr
        rintro e w1 ⟨rfl, hk1⟩
        go_wp2_with fail
        go_roundw
        case rel =>
          refine ⟨k + 1, by omega, by go_num, ?_, hK.trans' hk1⟩
          obtain ⟨hk', rfl⟩ := List.getElem?_eq_some_iff.1 HX.out
          rw [List.take_succ_eq_append_getElem hk']
          intro b hb
          rcases List.mem_append.1 hb with hb | hb
          · exact HA.out b hb
          · simp at hb; subst hb; exact HR.out
        case measure => simp [intOf]; omega
    · obtain rfl : k = os.length := by omega
      go_wp2_with fail
      go_ret
      refine ⟨-1, rfl, ?_, hK⟩
      have e1 : wrongF os = false := by
        unfold wrongF
        rw [List.any_eq_false]
        intro b hb
        have := HA.out b (by rw [List.take_length]; exact hb)
        simp [this]
      rw [e1]
      rfl

theorem has_wrong (w : World) (A : Option Addr) (c : Nat) (os : List OpT) (h : OpSrc w A os) (hl : os.length ≤ 9223372036854775807) (ho : ∀ o ∈ os, OpOk o) :
    Calls Tryz.prog 49 #[.slice A os.length c, .func (.func 50) #[] #[]] w fun e w' => e = .returned (.bool (wrongF os)) ∧ Keeps (fun _ => False) w w' := by
  have hi := index_wrong w A c os h hl ho
  clear h ho
  go_enter Tryz.func49, Tryz.ntmps49
  go_wp2_with fail
  refine hi.mono ?_
  rintro e w1 ⟨r, rfl, hr, hk⟩
  have HR := hide hr
  clear hr
  go_wp2_with fail
  go_ret
  exact ⟨by rw [← HR.out]; rfl, hk⟩
end

section
set_option linter.unusedVariables false
open Go.RowKit

structure CmdT where
  kind : Int
  session : Int
  req : Int
  noted : Int
  ops : List OpT
  path : List UInt8
  kids : Bool
  once : Bool
deriving DecidableEq
/-- a command as a value: its operations lie at A -/
abbrev cmdL (c : CmdT) (A : Option Addr) (cap : Nat) : List Value := [.int .i64 c.kind, .int .i64 c.session, .int .i64 c.req, .int .i64 c.noted, .slice A c.ops.length cap, .string (S c.path), .bool c.kids, .bool c.once]
abbrev cmdV (c : CmdT) (A : Option Addr) (cap : Nat) : Value := .agg #[.int .i64 c.kind, .int .i64 c.session, .int .i64 c.req, .int .i64 c.noted, .slice A c.ops.length cap, .string (S c.path), .bool c.kids, .bool c.once]
def CmdOk (c : CmdT) : Prop := c.path.length ≤ 9223372036854775807 ∧ c.ops.length ≤ 9223372036854775807 ∧ ∀ o ∈ c.ops, OpOk o

def numR (c : CmdT) : Bool := decide (0 ≤ c.session ∧ 0 ≤ c.req ∧ 0 ≤ c.noted ∧ c.session ≤ 281474976710655 ∧ c.req ≤ 281474976710655 ∧ c.noted ≤ 281474976710655)
def cmdR (c : CmdT) : Bool := decide (0 ≤ c.kind) && decide (c.kind ≤ 5) && numR c && decide (c.ops.length ≤ 4) && !wrongF c.ops && decide (c.path.length ≤ 60)

set_option maxRecDepth 100000 in
set_option maxHeartbeats 1000000 in
theorem right_cmd (w : World) (c : CmdT) (A : Option Addr) (cap : Nat) (h : OpSrc w A c.ops) (hok : CmdOk c) :
    Calls Tryz.prog 28 #[cmdV c A cap] w fun e w' => e = .returned (.bool (cmdR c)) ∧ Keeps (fun _ => False) w w' := by
  obtain ⟨kind, session, req, noted, ops, path, kids, once⟩ := c
  simp only at h hok ⊢
  obtain ⟨hp, hl, ho⟩ := hok
  simp only at hp hl ho
  have hw := fun w' (hk : Keeps (fun _ => False) w w') => has_wrong w' A cap ops (h.keep hk (fun _ _ h => h)) hl ho
  have HW := hide hw
  clear h ho hw
  obtain ⟨mn, hmn⟩ : ∃ m : Int, (if noted < (if req < session then req else session) then noted else if req < session then req else session) = m := ⟨_, rfl⟩
  obtain ⟨mx, hmx⟩ : ∃ m : Int, (if (if session < req then req else session) < noted then noted else if session < req then req else session) = m := ⟨_, rfl⟩
  have hN : numR ⟨kind, session, req, noted, ops, path, kids, once⟩ = (decide (0 ≤ mn) && decide (mx ≤ 281474976710655)) := by
    rw [Bool.eq_iff_iff]
    simp only [numR, decide_eq_true_eq, Bool.and_eq_true, ← hmn, ← hmx]
    by_cases q1 : req < session
    · have q2 : ¬ session < req := by omega
      simp only [q1, q2, if_true, if_false]
      by_cases q3 : noted < req <;> by_cases q4 : session < noted <;> simp only [q3, q4, if_true, if_false] <;> omega
    · simp only [q1, if_false]
      by_cases q2 : session < req <;> simp only [q2, if_true, if_false]
      · by_cases q3 : noted < session <;> by_cases q4 : req < noted <;> simp only [q3, q4, if_true, if_false] <;> omega
      · by_cases q3 : noted < session <;> by_cases q4 : session < noted <;> simp only [q3, q4, if_true, if_false] <;> omega
  have HN := hide hN
  clear hN
  cases hwr : wrongF ops
  all_goals
    have HWR := hide hwr
    rw [hwr] at HW
    clear hwr
    go_enter Tryz.func28, Tryz.ntmps28
    go_wp2_with (go_at_call 49; refine (HW.out _ ((Keeps.refl _ w).alloc _)).mono ?_; rintro e w1 ⟨rfl, hk1⟩; have q5 : w1.cell? ⟨w.heap.size, 5, none⟩ = some (.string (S path)) := (cell_of_row _ _ 5 _ _ _ (hk1.heap (heap_alloc_new w _) (fun h => h))))
    all_goals
      go_ret
      refine ⟨congrArg (fun b => Ending.returned (.bool b)) ?_, ?_⟩
      · rw [Bool.eq_iff_iff]
        simp [cmdR, HN.out, HWR.out]
        try omega
      · first | exact (Keeps.refl _ w).alloc _ | exact ((Keeps.refl _ w).alloc _).trans' hk1
end

section
set_option linter.unusedVariables false
open Go.RowKit

def opB (o : OpT) : List UInt8 := nums [o.does, o.version + 1] ++ txts [o.path, o.data] ++ flags [o.serial, o.own]
def cmdB (c : CmdT) : List UInt8 := nums [c.kind, c.session, c.req, c.noted, (c.ops.length : Int)] ++ c.ops.flatMap opB ++ txts [c.path] ++ flags [c.kids, c.once]
def bytesF (c : CmdT) : List UInt8 × Int := if cmdR c = false then ([], 1) else if 488 < (cmdB c).length then ([], 3) else (cmdB c, 0)

theorem grew_nil {w w' : World} {v' : Value} (h : Grew w (.slice none 0 0) w' v') : Keeps (fun _ => False) w w' :=
  h.keeps.mono (fun k _ e => by simp [Value.ownBlock] at e)
/-- what is known of a command that may be -/
theorem cmdR_of {c : CmdT} (h : cmdR c = true) : 0 ≤ c.kind ∧ c.kind ≤ 5 ∧ numR c = true ∧ c.ops.length ≤ 4 ∧ (∀ o ∈ c.ops, opR o = true) ∧ c.path.length ≤ 60 := by
  simp only [cmdR, Bool.and_eq_true, decide_eq_true_eq, Bool.not_eq_true'] at h
  obtain ⟨⟨⟨⟨⟨h1, h2⟩, h3⟩, h4⟩, h5⟩, h6⟩ := h
  refine ⟨h1, h2, h3, h4, fun o ho => ?_, h6⟩
  unfold wrongF at h5
  rw [List.any_eq_false] at h5
  have := h5 o ho
  simpa using this
theorem opR_of {o : OpT} (h : opR o = true) : 1 ≤ o.does ∧ o.does ≤ 4 ∧ o.path.length ≤ 60 ∧ o.data.length ≤ 61 ∧ -1 ≤ o.version ∧ o.version < 281474976710655 := by
  simp only [opR, Bool.and_eq_true, decide_eq_true_eq] at h
  obtain ⟨⟨⟨⟨⟨h1, h2⟩, h3⟩, h4⟩, h5⟩, h6⟩ := h
  exact ⟨h1, h2, h3, h4, h5, h6⟩

theorem opB_length (o : OpT) (h : opR o = true) : (opB o).length ≤ 200 := by
  obtain ⟨_, _, h3, h4, _, _⟩ := opR_of h
  have h5 : (cut16 o.path).length ≤ 60 := by unfold cut16; simp; omega
  have h6 : (cut16 o.data).length ≤ 61 := by unfold cut16; simp; omega
  simp only [opB, List.length_append, nums_length, txts, List.flatMap_cons, List.flatMap_nil, txt_length, flags, List.length_map, List.length_cons, List.length_nil]
  omega
theorem ops_length (os : List OpT) (h : ∀ o ∈ os, opR o = true) : (os.flatMap opB).length ≤ 200 * os.length := by
  induction os with
  | nil => simp
  | cons o r ih =>
    have h1 := opB_length o (h o (by simp))
    have h2 := ih (fun o ho => h o (by simp [ho]))
    simp only [List.flatMap_cons, List.length_append, List.length_cons]
    omega
theorem ops_take (os : List OpT) (k : Nat) (o : OpT) (h : os[k]? = some o) : (os.take (k + 1)).flatMap opB = (os.take k).flatMap opB ++ opB o := by
  obtain ⟨hk, rfl⟩ := List.getElem?_eq_some_iff.1 h
  rw [List.take_succ_eq_append_getElem hk, List.flatMap_append]
  simp

set_option maxRecDepth 100000 in
set_option maxHeartbeats 2000000 in
theorem bytes_cmd (w : World) (c : CmdT) (A : Option Addr) (cap : Nat) (h : OpSrc w A c.ops) (hok : CmdOk c) :
    Calls Tryz.prog 37 #[cmdV c A cap] w fun e w' => e = .returned (.tuple #[.string (S (bytesF c).1), .int .i64 (bytesF c).2]) ∧ Keeps (fun _ => False) w w' := by
  have hr := fun w' (hk : Keeps (fun _ => False) w w') => right_cmd w' c A cap (h.keep hk (fun _ _ h => h)) hok
  have HR := hide hr
  clear hr
  cases hc : cmdR c
  · have e : bytesF c = ([], 1) := by simp [bytesF, hc]
    rw [e]
    rw [hc] at HR
    clear e hc
    have H := hide h
    clear h
    go_enter Tryz.func37, Tryz.ntmps37
    go_wp2_with fail
    refine (HR.out _ ((Keeps.refl _ w).alloc _)).mono ?_
    rintro e w1 ⟨rfl, hk1⟩
    go_wp2_with fail
    go_ret2
    exact ⟨rfl, ((Keeps.refl _ w).alloc _).trans' hk1⟩
  · obtain ⟨k1, k2, k3, k4, k5, k6⟩ := cmdR_of hc
    rw [hc] at HR
    have H := hide h
    obtain ⟨kind, session, req, noted, ops, path, kids, once⟩ := c
    simp only at k1 k2 k3 k4 k5 k6 h
    have HE : Hid (bytesF ⟨kind, session, req, noted, ops, path, kids, once⟩ = if 488 < (cmdB ⟨kind, session, req, noted, ops, path, kids, once⟩).length then ([], 3) else (cmdB ⟨kind, session, req, noted, ops, path, kids, once⟩, 0)) := by
      show _ = _
      unfold bytesF
      rw [hc]
      rfl
    have K5 := hide k5
    clear hc h k3 k5 hok
    go_enter Tryz.func37, Tryz.ntmps37
    go_wp2_with fail
    refine (HR.out _ ((Keeps.refl _ w).alloc _)).mono ?_
    rintro e w1 ⟨rfl, hk1⟩
    have hb := hk1.heap (heap_alloc_new w _) (fun h => h)
    have q0 : w1.cell? ⟨w.heap.size, 0, none⟩ = some (.int .i64 kind) := cell_of_row _ _ 0 _ _ _ hb
    have q1 : w1.cell? ⟨w.heap.size, 1, none⟩ = some (.int .i64 session) := cell_of_row _ _ 1 _ _ _ hb
    have q2 : w1.cell? ⟨w.heap.size, 2, none⟩ = some (.int .i64 req) := cell_of_row _ _ 2 _ _ _ hb
    have q3 : w1.cell? ⟨w.heap.size, 3, none⟩ = some (.int .i64 noted) := cell_of_row _ _ 3 _ _ _ hb
    have q4 : w1.cell? ⟨w.heap.size, 4, none⟩ = some (.slice A ops.length cap) := cell_of_row _ _ 4 _ _ _ hb
    have HK1 := hide (((Keeps.refl (fun _ => False) w).alloc _).trans' hk1)
    have HB := hide hb
    clear hk1 hb HR
    go_wp2_with fail
    refine (num_new w1 _ _ [] (RowB.nil _) ((Keeps.refl _ _).alloc _) _ (Nat.le_refl _) [kind, session, req, noted, (ops.length : Int)] 5 rfl (heap_alloc_new _ _) (by simp) (by omega)).mono ?_
    rintro e w2 ⟨v2, rfl, hw2⟩
    have hk2 := grew_nil hw2.grew
    have hb2 := hk2.heap HB.out (fun h => h)
    have hv2 : ∀ g, v2.ownBlock = some g → w.heap.size < g := fun g e => by
      rcases hw2.grew.new _ e with h | h
      · simp [Value.ownBlock] at h
      · have := heap_lt HB.out; omega
    have q4 : w2.cell? ⟨w.heap.size, 4, none⟩ = some (.slice A ops.length cap) := cell_of_row _ _ 4 _ _ _ hb2
    have HB2 := hide hb2
    have HK2 := hide (HK1.out.trans' hk2)
    have HO2 : Hid (RowB w2 v2 (nums [kind, session, req, noted, (ops.length : Int)])) := hw2.row
    clear hk2 hb2 hw2 HB HK1
    generalize hN : nums [kind, session, req, noted, (ops.length : Int)] = N at *
    have hNl : N.length = 30 := by rw [← hN]; rfl
    have HN := hide hN
    clear hN
    go_wp2_with fail
    go_loopw [4, 26] (fun b i wr => ∃ k : Nat, k ≤ ops.length ∧ i = .int .i64 k ∧ RowB wr b (N ++ (ops.take k).flatMap opB) ∧ Grew w2 v2 wr b) (fun _ i _ => ops.length - (intOf i).toNat)
    case atStart => exact ⟨0, by omega, rfl, by simpa using HO2.out, Grew.refl _ _⟩
    case round =>
      obtain ⟨k, hk, rfl, hown, hg⟩ := hrel
      have hle := ops_length (ops.take k) (fun o ho => K5.out o (List.mem_of_mem_take ho))
      have hle2 : (ops.take k).length ≤ 4 := by simp; omega
      have hln : (N ++ (ops.take k).flatMap opB).length ≤ 1000 := by rw [List.length_append]; omega
      have HO := hide hown
      have HG := hide hg
      clear hle hle2 hown hg
      have hKw : Keeps (fun k => w.heap.size ≤ k) w wr := (HK2.out.mono (fun _ _ e => e.elim)).trans HG.out.keeps (fun i hi e => by have := hv2 i e; omega)
      have HKw := hide hKw
      clear hKw
      by_cases hlt : k < ops.length
      · obtain ⟨ad, o, rfl, hx, c0, c1, c2, c3, c4, c5⟩ := ops_at (H.out.keepB (by decide) HKw.out (fun k hk h => by omega)) hlt
        have hoR := K5.out o (List.mem_of_getElem? hx)
        obtain ⟨r1, r2, r3, r4, r5, r6⟩ := opR_of hoR
        have HT := hide (ops_take ops k o hx)
        clear hx hoR
        obtain ⟨does, opath, odata, over, oser, oown⟩ := o
        simp only at c0 c1 c2 c3 c4 c5 r1 r2 r3 r4 r5 r6
        generalize (ops.take k).flatMap opB = L at *
        go_wp2_with fail
        refine (num_new wr _ _ _ HO.out (((Keeps.refl _ _).alloc _).alloc _) _ (by omega) [does, over + 1] 2 rfl (heap_new (by simp)) (by omega) (by omega)).mono ?_
        rintro e w3 ⟨v3, rfl, hw3⟩
        have hvne : u4.ownBlock ≠ some wr.heap.size := fun e => by have := HO.out.lt e; omega
        have hb3 := hw3.keeps.heap (heap_old (heap_alloc_new wr _)) hvne
        have hvne3 : v3.ownBlock ≠ some wr.heap.size := hw3.row.ne_ hb3 (fun cur e => by injection e with _ e; exact absurd e (by decide))
        have q1 : w3.cell? ⟨wr.heap.size, 1, none⟩ = some (.string (S opath)) := cell_of_row _ _ 1 _ _ _ hb3
        have q2 : w3.cell? ⟨wr.heap.size, 2, none⟩ = some (.string (S odata)) := cell_of_row _ _ 2 _ _ _ hb3
        have q3 : w3.cell? ⟨wr.heap.size, 4, none⟩ = some (.bool oser) := cell_of_row _ _ 4 _ _ _ hb3
        have q5 : w3.cell? ⟨wr.heap.size, 5, none⟩ = some (.bool oown) := cell_of_row _ _ 5 _ _ _ hb3
        have HB3 := hide hb3
        have HO3 := hide hw3.row
        have HG3 := hide (HG.out.trans hw3.grew)
        have hsz3 : wr.heap.size < w3.heap.size := heap_lt hb3
        have hl3 : (N ++ L ++ nums [does, over + 1]).length ≤ 2000 := by
          have : (nums [does, over + 1]).length = 12 := rfl
          rw [List.length_append, this]; omega
        have ht4 := txts_le [opath, odata]
        have ht4 : (txts [opath, odata]).length ≤ 200000 := by have : [opath, odata].length = 2 := rfl; rw [this] at ht4; omega
        clear hb3 hw3 c0 c1 c2 c3 c4 c5
        go_upto_region 8 with fail
        go_region_held3 (fun w' => w'.cell? ⟨wr.heap.size, 1, none⟩ = some (.string (S opath)) ∧ w'.cell? ⟨wr.heap.size, 2, none⟩ = some (.string (S odata)) ∧ w'.cell? ⟨wr.heap.size, 4, none⟩ = some (.bool oser) ∧ w'.cell? ⟨wr.heap.size, 5, none⟩ = some (.bool oown)) (go_keep) (first
            | (go_at_call 57; go_must (refine (text_new w3 _ v3 _ HO3.out (by (repeat (first | exact Keeps.refl _ _ | refine Keeps.alloc ?_ _ | refine Keeps.drew ?_))) _ (by simp) [opath, odata] 2 rfl (by (first | exact heap_new (by simp) | exact heap_old (heap_new (by simp)))) (by omega) (by omega)).mono ?_); rintro e w4 ⟨v4, rfl, hw4⟩; have hb4 := hw4.grew.keeps.heap HB3.out hvne3; have q8 : w4.cell? ⟨wr.heap.size, 1, none⟩ = some (.string (S opath)) := cell_of_row _ _ 1 _ _ _ hb4; have q9 : w4.cell? ⟨wr.heap.size, 2, none⟩ = some (.string (S odata)) := cell_of_row _ _ 2 _ _ _ hb4; have q6 : w4.cell? ⟨wr.heap.size, 4, none⟩ = some (.bool oser) := cell_of_row _ _ 4 _ _ _ hb4; have q7 : w4.cell? ⟨wr.heap.size, 5, none⟩ = some (.bool oown) := cell_of_row _ _ 5 _ _ _ hb4; have HW4 := hide hw4; have hw4b := hb4; have hvne4 : v4.ownBlock ≠ some wr.heap.size := hw4.row.ne_ hb4 (fun cur e => by injection e with _ e; exact absurd e (by decide)); clear hb4 hw4)
            | (go_at_call 56; go_must (refine (flag_at _ v4 _ (by (first | exact HW4.out.row | exact HW4.out.row.kept ((Keeps.refl (fun _ => False) _).alloc _) (fun _ _ h => h))) _ [oser, oown] 2 rfl (by (first | exact heap_new (by simp) | exact HW4.out.keeps.heap (by (first | exact heap_new (by simp) | exact heap_old (heap_new (by simp)))) (fun e => by have := HO3.out.lt e; omega))) (by rw [List.length_append]; omega) (by omega)).mono ?_); rintro e w5 ⟨v5, rfl, hw5, hg5⟩; have hb5 := hg5.keeps.heap (by (first | exact hw4b | exact heap_old hw4b)) (fun e => hvne4 e); have q10 : w5.cell? ⟨wr.heap.size, 1, none⟩ = some (.string (S opath)) := cell_of_row _ _ 1 _ _ _ hb5; have q11 : w5.cell? ⟨wr.heap.size, 2, none⟩ = some (.string (S odata)) := cell_of_row _ _ 2 _ _ _ hb5; have q12 : w5.cell? ⟨wr.heap.size, 4, none⟩ = some (.bool oser) := cell_of_row _ _ 4 _ _ _ hb5; have q13 : w5.cell? ⟨wr.heap.size, 5, none⟩ = some (.bool oown) := cell_of_row _ _ 5 _ _ _ hb5))
        all_goals
          go_wp2_with fail
          go_roundw
          case rel =>
            refine ⟨k + 1, by omega, by go_num, ?_, ?_⟩
            · rw [HT.out, ← List.append_assoc]
              simpa only [opB, List.append_assoc] using hw5
            · first | exact (HG3.out.trans HW4.out.grew).trans hg5 | exact ((HG3.out.trans HW4.out.grew).alloc _).trans hg5
          case measure => simp [intOf]; omega
      · obtain rfl : k = ops.length := by omega
        rw [List.take_length] at HO hln
        have hb3 := HG.out.keeps.heap HB2.out (fun e => by have := hv2 _ e; omega)
        have hvne3 : u4.ownBlock ≠ some w.heap.size := HO.out.ne_ hb3 (fun cur e => by injection e with _ e; exact absurd e (by decide))
        have q1 : wr.cell? ⟨w.heap.size, 5, none⟩ = some (.string (S path)) := cell_of_row _ _ 5 _ _ _ hb3
        have q2 : wr.cell? ⟨w.heap.size, 6, none⟩ = some (.bool kids) := cell_of_row _ _ 6 _ _ _ hb3
        have q3 : wr.cell? ⟨w.heap.size, 7, none⟩ = some (.bool once) := cell_of_row _ _ 7 _ _ _ hb3
        have HB3 := hide hb3
        have hsz3 : w.heap.size < wr.heap.size := heap_lt hb3
        have ht4 := txts_le [path]
        have ht4 : (txts [path]).length ≤ 100000 := by have : [path].length = 1 := rfl; rw [this] at ht4; omega
        have HC : Hid (cmdB ⟨kind, session, req, noted, ops, path, kids, once⟩ = N ++ ops.flatMap opB ++ txts [path] ++ flags [kids, once]) := by
          show _ = _
          rw [← HN.out]
          rfl
        generalize cmdB ⟨kind, session, req, noted, ops, path, kids, once⟩ = CB at *
        generalize ops.flatMap opB = L at *
        have HKF : Hid (Keeps (fun _ => False) w wr) := (HK2.out.trans HG.out.keeps (fun i hi e => by have := hv2 i e; omega))
        clear hb3 H K5
        go_upto_region 10 with fail
        go_cut [4] (fun s4 wx => RowB wx s4 CB ∧ Keeps (fun _ => False) w wx)
        case first =>
          go_region_held3 (fun w' => w'.cell? ⟨w.heap.size, 5, none⟩ = some (.string (S path)) ∧ w'.cell? ⟨w.heap.size, 6, none⟩ = some (.bool kids) ∧ w'.cell? ⟨w.heap.size, 7, none⟩ = some (.bool once)) (go_keep) (first
            | (go_at_call 57; go_must (refine (text_new wr _ u4 _ HO.out (by (repeat (first | exact Keeps.refl _ _ | refine Keeps.alloc ?_ _ | refine Keeps.drew ?_))) _ (by simp) [path] 1 rfl (by (first | exact heap_new (by simp) | exact heap_old (heap_new (by simp)))) (by omega) (by omega)).mono ?_); rintro e w4 ⟨v4, rfl, hw4⟩; have hb4 := hw4.grew.keeps.heap HB3.out hvne3; have q8 : w4.cell? ⟨w.heap.size, 5, none⟩ = some (.string (S path)) := cell_of_row _ _ 5 _ _ _ hb4; have q9 : w4.cell? ⟨w.heap.size, 6, none⟩ = some (.bool kids) := cell_of_row _ _ 6 _ _ _ hb4; have q6 : w4.cell? ⟨w.heap.size, 7, none⟩ = some (.bool once) := cell_of_row _ _ 7 _ _ _ hb4; have HW4 := hide hw4; have hw4b := hb4; have hvne4 : v4.ownBlock ≠ some w.heap.size := hw4.row.ne_ hb4 (fun cur e => by injection e with _ e; exact absurd e (by decide)); clear hb4 hw4)
            | (go_at_call 56; go_must (refine (flag_at _ v4 _ (by (first | exact HW4.out.row | exact HW4.out.row.kept ((Keeps.refl (fun _ => False) _).alloc _) (fun _ _ h => h))) _ [kids, once] 2 rfl (by (first | exact heap_new (by simp) | exact HW4.out.keeps.heap (by (first | exact heap_new (by simp) | exact heap_old (heap_new (by simp)))) (fun e => by have := HO.out.lt e; omega))) (by rw [List.length_append]; omega) (by omega)).mono ?_); rintro e w5 ⟨v5, rfl, hw5, hg5⟩; have hb5 := hg5.keeps.heap (by (first | exact hw4b | exact heap_old hw4b)) (fun e => hvne4 e); have q10 : w5.cell? ⟨w.heap.size, 5, none⟩ = some (.string (S path)) := cell_of_row _ _ 5 _ _ _ hb5; have q11 : w5.cell? ⟨w.heap.size, 6, none⟩ = some (.bool kids) := cell_of_row _ _ 6 _ _ _ hb5; have q12 : w5.cell? ⟨w.heap.size, 7, none⟩ = some (.bool once) := cell_of_row _ _ 7 _ _ _ hb5))
          all_goals
            go_wp2_with fail
            go_meet
            case rel =>
              refine ⟨by rw [HC.out]; exact hw5, ?_⟩
              have hg : Grew wr u4 w5 v5 := by first | exact HW4.out.grew.trans hg5 | exact (HW4.out.grew.alloc _).trans hg5
              refine HKF.out.trans hg.keeps (fun i hi e => ?_)
              rcases HG.out.new i e with h | h
              · have := hv2 _ h; omega
              · have := HK2.out.size; omega
        case rest =>
          obtain ⟨hrow, hkw⟩ := hcut
          obtain ⟨A5, cap5, hv, hcap, hmax, hsrc⟩ := hrow.form
          subst hv
          have HRow := hide hrow
          have HKw := hide hkw
          clear hrow hkw
          have hCB : CB.length ≤ 9223372036854775807 := by unfold maxLen at hmax; omega
          by_cases hbig : 488 < CB.length
          · have e : bytesF ⟨kind, session, req, noted, ops, path, kids, once⟩ = ([], 3) := by rw [HE.out, if_pos hbig]
            have E := hide e
            clear e
            go_wp2_with fail
            go_ret2
            exact ⟨by rw [E.out]; rfl, HKw.out⟩
          · have e : bytesF ⟨kind, session, req, noted, ops, path, kids, once⟩ = (CB, 0) := by rw [HE.out, if_neg hbig]
            have E := hide e
            clear e
            have hconv := run_ofBytes (P := Tryz.prog) (dst := 9) Tryz.underlying99 Tryz.underlying5 Tryz.underlying9 hsrc cap5
            clear hsrc
            go_wp2_with fail
            go_ret2
            exact ⟨by rw [E.out]; rfl, HKw.out⟩
end

section
set_option linter.unusedVariables false
open Go.RowKit

abbrev Most : Int := 281474976710655
/-- an operation's reading, from its k-th part on -/
def rO6 (d v : Int) (p t : List UInt8) (s : Bool) (x : RS) : OpT × RS := (⟨d, p, t, v - 1, s, (rf x).1⟩, (rf x).2)
def rO5 (d v : Int) (p t : List UInt8) (x : RS) : OpT × RS := rO6 d v p t (rf x).1 (rf x).2
def rO4 (d v : Int) (p : List UInt8) (x : RS) : OpT × RS := rO5 d v p (rt x 61).1 (rt x 61).2
def rO3 (d v : Int) (x : RS) : OpT × RS := rO4 d v (rt x 60).1 (rt x 60).2
def rO2 (d : Int) (x : RS) : OpT × RS := rO3 d (rn x 281474976710655).1 (rn x 281474976710655).2
def rOp (x : RS) : OpT × RS := rO2 (rn x 4).1 (rn x 4).2
def rOps : Nat → RS → List OpT × RS
  | 0, x => ([], x)
  | n + 1, x => ((rOps n x).1 ++ [(rOp (rOps n x).2).1], (rOp (rOps n x).2).2)
/-- a command's reading, from its k-th part on -/
def rC9 (k se rq no : Int) (os : List OpT) (p : List UInt8) (ki : Bool) (x : RS) : CmdT × RS := (⟨k, se, rq, no, os, p, ki, (rf x).1⟩, (rf x).2)
def rC8 (k se rq no : Int) (os : List OpT) (p : List UInt8) (x : RS) : CmdT × RS := rC9 k se rq no os p (rf x).1 (rf x).2
def rC7 (k se rq no : Int) (os : List OpT) (x : RS) : CmdT × RS := rC8 k se rq no os (rt x 60).1 (rt x 60).2
def rC6 (k se rq no n : Int) (x : RS) : CmdT × RS := rC7 k se rq no (rOps n.toNat x).1 (rOps n.toNat x).2
def rC5 (k se rq no : Int) (x : RS) : CmdT × RS := rC6 k se rq no (rn x 4).1 (rn x 4).2
def rC4 (k se rq : Int) (x : RS) : CmdT × RS := rC5 k se rq (rn x 281474976710655).1 (rn x 281474976710655).2
def rC3 (k se : Int) (x : RS) : CmdT × RS := rC4 k se (rn x 281474976710655).1 (rn x 281474976710655).2
def rC2 (k : Int) (x : RS) : CmdT × RS := rC3 k (rn x 281474976710655).1 (rn x 281474976710655).2
def rCmd (x : RS) : CmdT × RS := rC2 (rn x 5).1 (rn x 5).2
def noCmd : CmdT := ⟨0, 0, 0, 0, [], [], false, false⟩
def readF (s : List UInt8) : CmdT × Int :=
  if rdone (rCmd (s, false)).2 ≠ 0 ∨ cmdR (rCmd (s, false)).1 = false ∨ 488 < s.length then (noCmd, 2) else ((rCmd (s, false)).1, 0)

theorem rf_le (x : RS) : (rf x).2.1.length ≤ x.1.length := by
  unfold rf
  split
  · exact tk_le x 1
  · split
    · simp [fl]
    · exact tk_le x 1
theorem rOps_length (n : Nat) (x : RS) : (rOps n x).1.length = n := by
  induction n with
  | zero => rfl
  | succ n ih => simp [rOps, ih]
theorem rOp_le (x : RS) : (rOp x).2.1.length ≤ x.1.length := by
  unfold rOp rO2 rO3 rO4 rO5 rO6
  simp only
  refine Nat.le_trans (rf_le _) (Nat.le_trans (rf_le _) (Nat.le_trans (rt_le _ _) (Nat.le_trans (rt_le _ _) (Nat.le_trans (rn_le _ _) (rn_le _ _)))))
theorem rOps_le (n : Nat) (x : RS) : (rOps n x).2.1.length ≤ x.1.length := by
  induction n with
  | zero => exact Nat.le_refl _
  | succ n ih => exact Nat.le_trans (rOp_le _) ih

theorem rOps_ok (n : Nat) (x : RS) : ∀ o ∈ (rOps n x).1, OpOk o := by
  induction n with
  | zero => intro o h; simp [rOps] at h
  | succ n ih =>
    intro o h
    simp only [rOps, List.mem_append, List.mem_singleton] at h
    rcases h with h | rfl
    · exact ih o h
    · have h1 := rt_len (rn (rn (rOps n x).2 4).2 281474976710655).2 60 (by decide)
      have h2 := rt_len (rt (rn (rn (rOps n x).2 4).2 281474976710655).2 60).2 61 (by decide)
      unfold OpOk rOp rO2 rO3 rO4 rO5 rO6
      simp only
      omega
theorem slO : Sl Tryz.prog 33 71 6 56 (.agg #[.int .i64 0, .string ⟨#[]⟩, .string ⟨#[]⟩, .int .i64 0, .bool false, .bool false]) := .mk' Tryz.underlying33 (by kernel_rfl) rfl (by decide)

/-- what stands while a command is read: the command's block, its operations' row, the reader, the result's block -/
structure RI (w wr : World) (cb r : Nat) (cs : Array Value) (v : Value) (k : Nat) (os : List OpT) (x : RS) : Prop where
  c : Blk wr cb 35 cs
  row : Row wr 71 6 v k (os.flatMap opC)
  rd : Rd wr r x
  z : Blk wr w.heap.size 35 #[.int .i64 0, .int .i64 0, .int .i64 0, .int .i64 0, .slice none 0 0, .string ⟨#[]⟩, .bool false, .bool false]
  keeps : Keeps (fun _ => False) w wr
  rc : r < cb
  wr : w.heap.size < r
theorem RI.step {w wr w' : World} {cb r : Nat} {cs : Array Value} {v : Value} {k : Nat} {os : List OpT} {x x' : RS} (h : RI w wr cb r cs v k os x) (hR : Rd w' r x') (hk : Keeps (fun k => k = r) wr w') : RI w w' cb r cs v k os x' :=
  ⟨h.c.kept hk (by have := h.rc; omega), h.row.kept hk (fun g hg e => by
    subst e
    exact h.row.ne_ h.rd (fun cur e => by injection e with _ e; exact absurd e (by decide)) hg), hR, h.z.kept hk (by have := h.wr; omega),
    h.keeps.trans hk (fun i hi e => by have := h.wr; omega), h.rc, h.wr⟩
theorem RI.alloc {w wr : World} {cb r : Nat} {cs : Array Value} {v : Value} {k : Nat} {os : List OpT} {x : RS} (h : RI w wr cb r cs v k os x) (o : Obj) : RI w (wr.alloc o) cb r cs v k os x :=
  ⟨h.c.alloc o, Row.alloc h.row o, heap_old h.rd, h.z.alloc o, h.keeps.alloc o, h.rc, h.wr⟩
/-- a store into another block -/
theorem RI.far {w wr : World} {cb r : Nat} {cs : Array Value} {v : Value} {k : Nat} {os : List OpT} {x : RS} (h : RI w wr cb r cs v k os x) {b : Nat} {cs' : Array Value} {e : TypeId} (hb : Blk wr b e cs') (hbc : cb < b) (he : e ≠ 71 ∨ v.ownBlock ≠ some b) (i : Nat) (u : Value) : RI w (wr.setCell ⟨b, i, none⟩ u) cb r cs v k os x := by
  have hk : Keeps (fun k => k = b) wr (wr.setCell ⟨b, i, none⟩ u) := (Keeps.refl (fun k => k = b) wr).setCell (p := ⟨b, i, none⟩) (fun _ => rfl) u
  have h1 := h.rc
  have h2 := h.wr
  refine ⟨h.c.kept hk (by omega), h.row.kept hk (fun g hg e' => ?_), h.rd.kept hk (by omega), h.z.kept hk (by omega), h.keeps.trans hk (fun i hi e => by omega), h.rc, h.wr⟩
  subst e'
  rcases he with he | he
  · exact h.row.ne_ hb (fun cur e' => by injection e' with _ e'; exact he e') hg
  · exact he hg
/-- a store into the command's block -/
theorem RI.setc {w wr : World} {cb r : Nat} {cs : Array Value} {v : Value} {k : Nat} {os : List OpT} {x : RS} (h : RI w wr cb r cs v k os x) (i : Nat) (u : Value) : RI w (wr.setCell ⟨cb, i, none⟩ u) cb r (cs.setIfInBounds i u) v k os x := by
  have hk : Keeps (fun k => k = cb) wr (wr.setCell ⟨cb, i, none⟩ u) := (Keeps.refl (fun k => k = cb) wr).setCell (p := ⟨cb, i, none⟩) (fun _ => rfl) u
  have h1 := h.rc
  have h2 := h.wr
  exact ⟨h.c.set i u, h.row.kept hk (fun g hg e' => by
    subst e'
    exact h.row.ne_ h.c (fun cur e' => by injection e' with _ e'; exact absurd e' (by decide)) hg), h.rd.kept hk (by omega), h.z.kept hk (by omega), h.keeps.trans hk (fun i hi e => by omega), h.rc, h.wr⟩
/-- an append -/
theorem RI.grew {w wr w' : World} {cb r : Nat} {cs : Array Value} {v v' : Value} {k k' : Nat} {os os' : List OpT} {x : RS} (h : RI w wr cb r cs v k os x) (hnew : ∀ g, v.ownBlock = some g → w.heap.size ≤ g) (hg : Grew wr v w' v') (hr : Row w' 71 6 v' k' (os'.flatMap opC)) : RI w w' cb r cs v' k' os' x :=
  ⟨h.c.kept hg.keeps (h.row.ne_ h.c (fun cur e' => by injection e' with _ e'; exact absurd e' (by decide))), hr, h.rd.kept hg.keeps (h.row.ne_ h.rd (fun cur e' => by injection e' with _ e'; exact absurd e' (by decide))),
    h.z.kept hg.keeps (h.row.ne_ h.z (fun cur e' => by injection e' with _ e'; exact absurd e' (by decide))), h.keeps.trans hg.keeps (fun i hi e => by have := hnew i e; omega), h.rc, h.wr⟩

theorem Row.unbased {w : World} {e : TypeId} {size : Nat} {v : Value} {n : Nat} {xs : List Value} {N : Nat} (h : w.ownsRow N e size v n xs) : Row w e size v n xs := by
  refine ⟨h.1, ?_⟩
  rcases h.2 with hh | ⟨g, cap, cur, rfl, hb, rest⟩
  · exact .inl hh
  · exact .inr ⟨g, cap, cur, rfl, Nat.zero_le _, rest⟩
/-- a row whose block is new -/
theorem Row.based {w : World} {e : TypeId} {size : Nat} {v : Value} {n : Nat} {xs : List Value} (h : Row w e size v n xs) {N : Nat} (hn : ∀ g, v.ownBlock = some g → N ≤ g) : w.ownsRow N e size v n xs := by
  refine ⟨h.1, ?_⟩
  rcases h.2 with hh | ⟨g, cap, cur, rfl, hb, rest⟩
  · exact .inl hh
  · exact .inr ⟨g, cap, cur, rfl, hn g rfl, rest⟩

set_option maxRecDepth 100000 in
set_option maxHeartbeats 2000000 in
theorem read_row (w : World) (s : List UInt8) (hs : s.length ≤ 9223372036854775807) :
    Calls Tryz.prog 9 #[.string (S s)] w fun e w' => ∃ A cap, e = .returned (.tuple #[cmdV (readF s).1 A cap, .int .i64 (readF s).2]) ∧ w'.ownsRow w.heap.size 71 6 (.slice A (readF s).1.ops.length cap) (readF s).1.ops.length ((readF s).1.ops.flatMap opC) ∧ Keeps (fun _ => False) w w' := by
  go_enter Tryz.func9, Tryz.ntmps9
  go_wp2_with fail
  refine (read_reads _ s).mono ?_
  rintro e w1 ⟨rfl, rfl⟩
  go_wp2_with fail
  refine (num_reads _ _ 5 (s, false) hs (by exact heap_new (by simp))).mono ?_
  rintro e w2 ⟨rfl, hR, hk⟩
  have HZ := hide (Blk.kept (F := fun k => k = w.heap.size + 1) ((Blk.new rfl).alloc _) hk (by omega))
  have HK := hide ((((Keeps.refl (fun _ => False) w).alloc _).alloc _).trans hk (fun i hi e => by omega))
  have hsz : w.heap.size + 1 < w2.heap.size := hR.lt
  have HR := hide hR
  clear hR hk
  have HE : Hid (readF s = if rdone (rCmd (s, false)).2 ≠ 0 ∨ cmdR (rCmd (s, false)).1 = false ∨ 488 < s.length then (noCmd, 2) else ((rCmd (s, false)).1, 0)) := rfl
  have EC : Hid (rCmd (s, false) = rC2 (rn (s, false) 5).1 (rn (s, false) 5).2) := rfl
  have hl := rn_le (s, false) 5
  generalize hr : w.heap.size + 1 = r at *
  generalize rn (s, false) 5 = a0 at *
  have HL : a0.2.1.length ≤ 9223372036854775807 := Nat.le_trans hl hs
  have hwr : w.heap.size < r := by omega
  clear hr hl
  go_wp2_with fail
  refine (num_reads _ _ _ a0.2 HL HR.out).mono ?_
  rintro e w3 ⟨rfl, hR, hk⟩
  replace HR := hide hR
  replace HZ := hide (HZ.out.kept hk (by omega))
  replace HK := hide (HK.out.trans hk (fun i hi e => by omega))
  have hsz3 := hk.size
  replace EC : Hid (rCmd (s, false) = rC3 a0.1 (rn a0.2 281474976710655).1 (rn a0.2 281474976710655).2) := EC.out
  have hl := rn_le a0.2 281474976710655
  generalize rn a0.2 281474976710655 = a1 at *
  replace HL : a1.2.1.length ≤ 9223372036854775807 := Nat.le_trans hl HL
  clear hR hk hl
  go_wp2_with fail
  refine (num_reads _ _ _ a1.2 HL HR.out).mono ?_
  rintro e w4 ⟨rfl, hR, hk⟩
  replace HR := hide hR
  replace HZ := hide (HZ.out.kept hk (by omega))
  replace HK := hide (HK.out.trans hk (fun i hi e => by omega))
  have hsz4 := hk.size
  replace EC : Hid (rCmd (s, false) = rC4 a0.1 a1.1 (rn a1.2 281474976710655).1 (rn a1.2 281474976710655).2) := EC.out
  have hl := rn_le a1.2 281474976710655
  generalize rn a1.2 281474976710655 = a2 at *
  replace HL : a2.2.1.length ≤ 9223372036854775807 := Nat.le_trans hl HL
  clear hR hk hl
  go_wp2_with fail
  refine (num_reads _ _ _ a2.2 HL HR.out).mono ?_
  rintro e w5 ⟨rfl, hR, hk⟩
  replace HR := hide hR
  replace HZ := hide (HZ.out.kept hk (by omega))
  replace HK := hide (HK.out.trans hk (fun i hi e => by omega))
  have hsz5 := hk.size
  replace EC : Hid (rCmd (s, false) = rC5 a0.1 a1.1 a2.1 (rn a2.2 281474976710655).1 (rn a2.2 281474976710655).2) := EC.out
  have hl := rn_le a2.2 281474976710655
  generalize rn a2.2 281474976710655 = a3 at *
  replace HL : a3.2.1.length ≤ 9223372036854775807 := Nat.le_trans hl HL
  clear hR hk hl
  go_wp2_with fail
  refine (num_reads _ _ _ a3.2 HL (HR.out.kept ((Keeps.refl (fun _ => False) _).alloc _) (fun h => h))).mono ?_
  rintro e w6 ⟨rfl, hR, hk⟩
  generalize hcb : w5.heap.size = cb at *
  replace HR := hide hR
  have HC := hide (Blk.kept (Blk.new hcb.symm) hk (by omega))
  replace HZ := hide ((HZ.out.alloc _).kept hk (by omega))
  replace HK := hide ((HK.out.alloc _).trans hk (fun i hi e => by omega))
  have hsz6 : cb < w6.heap.size := HC.out.lt
  replace EC : Hid (rCmd (s, false) = rC6 a0.1 a1.1 a2.1 a3.1 (rn a3.2 4).1 (rn a3.2 4).2) := EC.out
  have hl := rn_le a3.2 4
  have n4l := rn_lo a3.2 4
  have n4h := rn_hi a3.2 4 (by decide)
  generalize rn a3.2 4 = a4 at *
  obtain ⟨n4, x4⟩ := a4
  obtain ⟨n, rfl⟩ := Int.eq_ofNat_of_zero_le n4l
  replace HL : x4.1.length ≤ 9223372036854775807 := Nat.le_trans hl HL
  have hrc : r < cb := by omega
  have hwc : w.heap.size < cb := by omega
  have hn4 : n ≤ 4 := by simp only at n4h; omega
  clear hR hk hl n4l n4h hcb hsz3 hsz4 hsz5 hsz
  simp only at HR
  replace EC : Hid (rCmd (s, false) = rC7 a0.1 a1.1 a2.1 a3.1 (rOps n x4).1 (rOps n x4).2) := EC.out
  generalize a0.1 = A0 at *
  generalize a1.1 = A1 at *
  generalize a2.1 = A2 at *
  generalize a3.1 = A3 at *
  go_wp2_with fail
  have HI : Hid (RI w w6 cb r #[.int .i64 A0, .int .i64 A1, .int .i64 A2, .int .i64 A3, .slice none 0 0, .string ⟨#[]⟩, .bool false, .bool false] (.slice none 0 0) 0 [] x4) := ⟨HC.out, Row.nil _ _ _, HR.out, HZ.out, HK.out, hrc, hwr⟩
  clear HC HR HZ HK
  go_loopw [20] (fun i wr => ∃ k : Nat, k ≤ n ∧ i = .int .i64 k ∧ ∃ v, RI w wr cb r #[.int .i64 A0, .int .i64 A1, .int .i64 A2, .int .i64 A3, v, .string ⟨#[]⟩, .bool false, .bool false] v k (rOps k x4).1 (rOps k x4).2 ∧ (∀ g, v.ownBlock = some g → w.heap.size ≤ g)) (fun i _ => n - (intOf i).toNat)
  case atStart => exact ⟨0, by omega, rfl, _, HI.out, fun g h => by simp [Value.ownBlock] at h⟩
  case round =>
    clear HI
    obtain ⟨k, hk, rfl, v, hI, hnew⟩ := hrel
    have hlx : (rOps k x4).2.1.length ≤ 9223372036854775807 := Nat.le_trans (rOps_le k x4) HL
    have HI := hide hI
    have HN := hide hnew
    clear hI hnew
    by_cases hlt : k < n
    · have EO : Hid (rOps (k + 1) x4 = ((rOps k x4).1 ++ [(rOp (rOps k x4).2).1], (rOp (rOps k x4).2).2)) := rfl
      generalize rOps k x4 = X at *
      obtain ⟨os, x⟩ := X
      simp only at hlx HI EO
      have E : Hid (rOp x = rO2 (rn x 4).1 (rn x 4).2) := rfl
      go_wp2_with fail
      refine (num_reads _ _ _ x hlx HI.out.rd).mono ?_
      rintro e v1 ⟨rfl, hR, hk⟩
      replace HI := hide (HI.out.step hR hk)
      
      have hl := rn_le x 4
      generalize rn x 4 = b1 at *
      replace hlx := Nat.le_trans hl hlx
      clear hR hk hl
      go_wp2_with fail
      refine (num_reads _ _ _ b1.2 hlx HI.out.rd).mono ?_
      rintro e v2 ⟨rfl, hR, hk⟩
      replace HI := hide (HI.out.step hR hk)
      replace E : Hid (rOp x = rO3 b1.1 (rn b1.2 281474976710655).1 (rn b1.2 281474976710655).2) := E.out
      have hl := rn_le b1.2 281474976710655
      have hv1 := rn_lo b1.2 281474976710655
      have hv2 := rn_hi b1.2 281474976710655 (by decide)
      generalize rn b1.2 281474976710655 = b2 at *
      replace hlx := Nat.le_trans hl hlx
      clear hR hk hl
      go_upto_region 6 with fail
      have hob := HI.out.c.lt
      have hvob : v.ownBlock ≠ some v2.heap.size := fun e => by have := HI.out.row.lt e; omega
      replace HI := hide (HI.out.alloc (.cells #[.int .i64 b1.1, .string ⟨#[]⟩, .string ⟨#[]⟩, .int .i64 (b2.1 - 1), .bool false, .bool false] 71))
      have HB : Hid (Blk (v2.alloc (.cells #[.int .i64 b1.1, .string ⟨#[]⟩, .string ⟨#[]⟩, .int .i64 (b2.1 - 1), .bool false, .bool false] 71)) v2.heap.size 71 #[.int .i64 b1.1, .string ⟨#[]⟩, .string ⟨#[]⟩, .int .i64 (b2.1 - 1), .bool false, .bool false]) := Blk.new rfl
      generalize v2.heap.size = ob at *
      go_cut [] (fun wx => RI w wx cb r #[.int .i64 A0, .int .i64 A1, .int .i64 A2, .int .i64 A3, v, .string ⟨#[]⟩, .bool false, .bool false] v k os (rOp x).2 ∧ Blk wx ob 71 #[.int .i64 (rOp x).1.does, .string (S (rOp x).1.path), .string (S (rOp x).1.data), .int .i64 (rOp x).1.version, .bool (rOp x).1.serial, .bool (rOp x).1.own])
      case first =>
        go_wp2_with fail
        refine (text_reads _ _ _ b2.2 hlx HI.out.rd).mono ?_
        rintro e v3 ⟨rfl, hR, hk⟩
        replace HI := hide (HI.out.step hR hk)
        replace HB := hide (HB.out.kept hk (by omega))
        replace E : Hid (rOp x = rO4 b1.1 b2.1 (rt b2.2 60).1 (rt b2.2 60).2) := E.out
        have hl := rt_le b2.2 60
        generalize rt b2.2 60 = b3 at *
        replace hlx := Nat.le_trans hl hlx
        clear hR hk hl
        go_wp2_with fail
        refine (text_reads _ _ _ b3.2 hlx HI.out.rd).mono ?_
        rintro e v4 ⟨rfl, hR, hk⟩
        replace HI := hide (HI.out.step hR hk)
        replace HB := hide (HB.out.kept hk (by omega))
        replace E : Hid (rOp x = rO5 b1.1 b2.1 b3.1 (rt b3.2 61).1 (rt b3.2 61).2) := E.out
        have hl := rt_le b3.2 61
        generalize rt b3.2 61 = b4 at *
        replace hlx := Nat.le_trans hl hlx
        clear hR hk hl
        go_wp2_with fail
        refine (flag_reads _ _ b4.2 hlx HI.out.rd).mono ?_
        rintro e v5 ⟨rfl, hR, hk⟩
        replace HI := hide (HI.out.step hR hk)
        replace HB := hide (HB.out.kept hk (by omega))
        replace E : Hid (rOp x = rO6 b1.1 b2.1 b3.1 b4.1 (rf b4.2).1 (rf b4.2).2) := E.out
        have hl := rf_le b4.2
        generalize rf b4.2 = b5 at *
        replace hlx := Nat.le_trans hl hlx
        clear hR hk hl
        go_wp2_with fail
        refine (flag_reads _ _ b5.2 hlx HI.out.rd).mono ?_
        rintro e v6 ⟨rfl, hR, hk⟩
        replace HI := hide (HI.out.step hR hk)
        replace HB := hide (HB.out.kept hk (by omega))
        replace E : Hid (rOp x = (⟨b1.1, b3.1, b4.1, b2.1 - 1, b5.1, (rf b5.2).1⟩, (rf b5.2).2)) := E.out
        generalize rf b5.2 = b6 at *
        clear hR hk
        have p1 := HB.out.cell 1 _ rfl
        have p2 := HB.out.cell 2 _ rfl
        have p4 := HB.out.cell 4 _ rfl
        have p5 := HB.out.cell 5 _ rfl
        have f1 := HB.out.fz 1
        have f2 := HB.out.fz 2
        have f4 := HB.out.fz 4
        have f5 := HB.out.fz 5
        go_wp2_with fail
        go_meet
        case rel =>
          rw [E.out]
          have hB1 := HB.out.set 1 (.string (S b3.1))
          have hB2 := hB1.set 2 (.string (S b4.1))
          have hB4 := hB2.set 4 (.bool b5.1)
          exact ⟨(((HI.out.far HB.out hob (.inr hvob) 1 _).far hB1 hob (.inr hvob) 2 _).far hB2 hob (.inr hvob) 4 _).far hB4 hob (.inr hvob) 5 _, hB4.set 5 (.bool b6.1)⟩
      case rest =>
        obtain ⟨hI, hB⟩ := hcut
        have HI2 := hide hI
        have HB2 := hide hB
        clear HI HB hI hB E hlx
        generalize rOp x = Z at *
        obtain ⟨o, x'⟩ := Z
        simp only at HI2 HB2 EO
        have p0 : wc.cell? ⟨ob, 0, none⟩ = some (.int .i64 o.does) := HB2.out.cell 0 _ rfl
        have p1 : wc.cell? ⟨ob, 1, none⟩ = some (.string (S o.path)) := HB2.out.cell 1 _ rfl
        have p2 : wc.cell? ⟨ob, 2, none⟩ = some (.string (S o.data)) := HB2.out.cell 2 _ rfl
        have p3 : wc.cell? ⟨ob, 3, none⟩ = some (.int .i64 o.version) := HB2.out.cell 3 _ rfl
        have p4 : wc.cell? ⟨ob, 4, none⟩ = some (.bool o.serial) := HB2.out.cell 4 _ rfl
        have p5 : wc.cell? ⟨ob, 5, none⟩ = some (.bool o.own) := HB2.out.cell 5 _ rfl
        have pc : wc.cell? ⟨cb, 4, none⟩ = some v := HI2.out.c.cell 4 _ rfl
        have hkl : k ≤ 4 := by omega
        go_wp2_with (at_builtin; go_must (refine wpList_app slO rfl (.tmp 41) (.tmp 43) rfl (Row.alloc HI2.out.row _) rfl (Src.block (heap_alloc_new _ _) 6 1 rfl) rfl (by simp [Value.oneCell']) (by unfold maxLen; omega) (by omega) ?_); intro v9 w9 hrow9 hg9; obtain ⟨A9, c9, e9, _, _, _, _⟩ := Row.form hrow9; subst e9; have hrow9' : Row w9 71 6 (.slice A9 (k + 1) c9) (k + 1) ((os ++ [o]).flatMap opC) := (by rw [List.flatMap_append]; simpa [opC] using hrow9); have hI9 := (HI2.out.alloc _).grew HN.out hg9 hrow9'; have pc9 : w9.cell? ⟨cb, 4, none⟩ = some v := hI9.c.cell 4 _ rfl; have pf9 := hI9.c.fz 4; have HI9 := hide hI9; have HG9 := hide hg9; clear hI9 hg9 hrow9 hrow9')
        go_roundw
        case rel =>
          refine ⟨k + 1, by omega, by go_num, .slice A9 (k + 1) c9, ?_, fun g hg => ?_⟩
          · rw [EO.out]
            exact HI9.out.setc 4 (.slice A9 (k + 1) c9)
          · rcases HG9.out.new g hg with h | h
            · exact HN.out g h
            · have := HI2.out.keeps.size
              simp at h
              omega
        case measure => simp [intOf]; omega
    · obtain rfl : k = n := by omega
      have HOL := rOps_length k x4
      have HOK := hide (rOps_ok k x4)
      generalize rOps k x4 = X at *
      obtain ⟨os, x⟩ := X
      simp only at hlx HI EC HOL HOK
      subst HOL
      go_upto_region 9 with fail
      go_cut [] (fun wx => ∃ p ki o x', rCmd (s, false) = (⟨A0, A1, A2, A3, os, p, ki, o⟩, x') ∧ p.length ≤ 60 ∧ RI w wx cb r #[.int .i64 A0, .int .i64 A1, .int .i64 A2, .int .i64 A3, v, .string (S p), .bool ki, .bool o] v os.length os x')
      case first =>
        go_wp2_with fail
        refine (text_reads _ _ _ x hlx HI.out.rd).mono ?_
        rintro e v3 ⟨rfl, hR, hk⟩
        replace HI := hide (HI.out.step hR hk)
        replace EC : Hid (rCmd (s, false) = rC8 A0 A1 A2 A3 os (rt x 60).1 (rt x 60).2) := EC.out
        have hl := rt_le x 60
        have hp60 := rt_len x 60 (by decide)
        generalize rt x 60 = b3 at *
        replace hlx := Nat.le_trans hl hlx
        clear hR hk hl
        go_wp2_with fail
        refine (flag_reads _ _ b3.2 hlx HI.out.rd).mono ?_
        rintro e v4 ⟨rfl, hR, hk⟩
        replace HI := hide (HI.out.step hR hk)
        replace EC : Hid (rCmd (s, false) = rC9 A0 A1 A2 A3 os b3.1 (rf b3.2).1 (rf b3.2).2) := EC.out
        have hl := rf_le b3.2
        generalize rf b3.2 = b4 at *
        replace hlx := Nat.le_trans hl hlx
        clear hR hk hl
        go_wp2_with fail
        refine (flag_reads _ _ b4.2 hlx HI.out.rd).mono ?_
        rintro e v5 ⟨rfl, hR, hk⟩
        replace HI := hide (HI.out.step hR hk)
        replace EC : Hid (rCmd (s, false) = (⟨A0, A1, A2, A3, os, b3.1, b4.1, (rf b4.2).1⟩, (rf b4.2).2)) := EC.out
        generalize rf b4.2 = b5 at *
        clear hR hk
        have p1 := HI.out.c.cell 5 _ rfl
        have p2 := HI.out.c.cell 6 _ rfl
        have p4 := HI.out.c.cell 7 _ rfl
        have f1 := HI.out.c.fz 5
        have f2 := HI.out.c.fz 6
        have f4 := HI.out.c.fz 7
        go_wp2_with fail
        go_meet
        case rel =>
          exact ⟨b3.1, b4.1, b5.1, b5.2, EC.out, by omega, ((HI.out.setc 5 (.string (S b3.1))).setc 6 (.bool b4.1)).setc 7 (.bool b5.1)⟩
      case rest =>
        obtain ⟨p, ki, o, x', eC, hp, hI⟩ := hcut
        obtain ⟨A, cap, hv, _, _, hsrc, hAd⟩ := Row.form hI.row
        subst hv
        have HNW : Hid (∀ g, (Value.slice A os.length cap).ownBlock = some g → g ≠ w.heap.size) := fun g hg e2 => by
          subst e2
          exact hI.row.ne_ hI.z (fun cur e' => by injection e' with _ e'; exact absurd e' (by decide)) hg
        have HAd : Hid (∀ ad, A = some ad → ad.block ≠ w.heap.size) := fun ad e e2 => by
          have := (hAd ad e).1
          rw [e2] at this
          exact hI.row.ne_ hI.z (fun cur e' => by injection e' with _ e'; exact absurd e' (by decide)) this
        clear hAd
        rw [eC] at HE
        clear HI EC eC hlx HL
        have HI := hide hI
        have HS := hide hsrc
        clear hI hsrc
        have hok : CmdOk ⟨A0, A1, A2, A3, os, p, ki, o⟩ := ⟨by simp only; omega, by simp only; omega, HOK.out⟩
        have HKO := hide hok
        clear hok
        have q0 : wc.cell? ⟨cb, 0, none⟩ = some (.int .i64 A0) := HI.out.c.cell 0 _ rfl
        have q1 : wc.cell? ⟨cb, 1, none⟩ = some (.int .i64 A1) := HI.out.c.cell 1 _ rfl
        have q2 : wc.cell? ⟨cb, 2, none⟩ = some (.int .i64 A2) := HI.out.c.cell 2 _ rfl
        have q3 : wc.cell? ⟨cb, 3, none⟩ = some (.int .i64 A3) := HI.out.c.cell 3 _ rfl
        have q4 : wc.cell? ⟨cb, 4, none⟩ = some (.slice A os.length cap) := HI.out.c.cell 4 _ rfl
        have q5 : wc.cell? ⟨cb, 5, none⟩ = some (.string (S p)) := HI.out.c.cell 5 _ rfl
        have q6 : wc.cell? ⟨cb, 6, none⟩ = some (.bool ki) := HI.out.c.cell 6 _ rfl
        have q7 : wc.cell? ⟨cb, 7, none⟩ = some (.bool o) := HI.out.c.cell 7 _ rfl
        go_wp2_with fail
        refine (done_reads _ _ _ HI.out.rd).mono ?_
        by_cases hd : rdone x' ≠ 0
        · have hE : readF s = (noCmd, 2) := by rw [HE.out, if_pos (.inl hd)]
          have E := hide hE
          have hd2 : (rdone x' != 0) = true := by simpa using hd
          clear hE hd
          rintro e w7 ⟨rfl, rfl⟩
          go_wp2_with ((show Go.wpList _ _ _ (Oper.mk none (Op.store _ _ _) _ _ _ _ :: _) _ _); refine wpList_store_row rfl _ (.tmp 2) (.tmp 69) rfl w.heap.size _ rfl rfl _ _ HI.out.z (by kernel_rfl) rfl (by simp [Value.oneCell']) ?_)
          refine bodyPost_ret (results_row_tmp Tryz.results9 _ _ w.heap.size _ _ _ _ rfl (setRow_heap _ _ _ _ _ _ HI.out.z) Tryz.underlying35 rfl (by kernel_rfl)) rfl ?_
          exact ⟨none, 0, by rw [E.out]; rfl, by rw [E.out]; exact World.ownsRow_nil _ _ _ _, HI.out.keeps.trans (keeps_setRow _ _ _) (fun i hi e => by omega)⟩
        · have hd1 : rdone x' = 0 := by simpa using hd
          have hd2 : (rdone x' != 0) = false := by simp [hd1]
          rintro e w7 ⟨rfl, rfl⟩
          have hr := right_cmd wc ⟨A0, A1, A2, A3, os, p, ki, o⟩ A cap HS.out HKO.out
          by_cases hc : cmdR ⟨A0, A1, A2, A3, os, p, ki, o⟩ = true ∧ s.length ≤ 488
          · obtain ⟨hc1, hc2⟩ := hc
            have E : Hid (readF s = (⟨A0, A1, A2, A3, os, p, ki, o⟩, 0)) := by
              show _ = _
              rw [HE.out, if_neg]
              rintro (h | h | h)
              · exact h hd1
              · rw [hc1] at h; cases h
              · omega
            rw [hc1] at hr
            clear hd hd1 hc1
            go_wp2_with fail
            refine hr.mono ?_
            rintro e w8 ⟨rfl, hk8⟩
            have hz8 := HI.out.z.kept hk8 (fun h => h)
            have q0 : w8.cell? ⟨cb, 0, none⟩ = some (.int .i64 A0) := (HI.out.c.kept hk8 (fun h => h)).cell 0 _ rfl
            have q1 : w8.cell? ⟨cb, 1, none⟩ = some (.int .i64 A1) := (HI.out.c.kept hk8 (fun h => h)).cell 1 _ rfl
            have q2 : w8.cell? ⟨cb, 2, none⟩ = some (.int .i64 A2) := (HI.out.c.kept hk8 (fun h => h)).cell 2 _ rfl
            have q3 : w8.cell? ⟨cb, 3, none⟩ = some (.int .i64 A3) := (HI.out.c.kept hk8 (fun h => h)).cell 3 _ rfl
            have q4 : w8.cell? ⟨cb, 4, none⟩ = some (.slice A os.length cap) := (HI.out.c.kept hk8 (fun h => h)).cell 4 _ rfl
            have q5 : w8.cell? ⟨cb, 5, none⟩ = some (.string (S p)) := (HI.out.c.kept hk8 (fun h => h)).cell 5 _ rfl
            have q6 : w8.cell? ⟨cb, 6, none⟩ = some (.bool ki) := (HI.out.c.kept hk8 (fun h => h)).cell 6 _ rfl
            have q7 : w8.cell? ⟨cb, 7, none⟩ = some (.bool o) := (HI.out.c.kept hk8 (fun h => h)).cell 7 _ rfl
            have HZ8 := hide hz8
            have HK8 := hide hk8
            clear hz8 hk8 hr
            go_wp2_with ((show Go.wpList _ _ _ (Oper.mk none (Op.store _ _ _) _ _ _ _ :: _) _ _); refine wpList_store_row rfl _ (.tmp 2) (.tmp 70) rfl w.heap.size _ rfl rfl _ _ HZ8.out (by kernel_rfl) rfl (by simp [Value.oneCell']) ?_)
            refine bodyPost_ret (results_row_tmp Tryz.results9 _ _ w.heap.size _ _ _ _ rfl (setRow_heap _ _ _ _ _ _ HZ8.out) Tryz.underlying35 rfl (by kernel_rfl)) rfl ?_
            refine ⟨A, cap, by rw [E.out]; rfl, ?_, (HI.out.keeps.trans' HK8.out).trans (keeps_setRow _ _ _) (fun i hi e => by omega)⟩
            rw [E.out]
            exact Row.based ((HI.out.row.kept HK8.out (fun _ _ h => h)).kept (keeps_setRow _ _ _) (fun g hg h => HNW.out g hg h)) (fun g hg => HN.out g hg)
          · have E : Hid (readF s = (noCmd, 2)) := by
              show _ = _
              rw [HE.out, if_pos]
              by_cases h1 : cmdR ⟨A0, A1, A2, A3, os, p, ki, o⟩ = true
              · right; right; have : ¬ s.length ≤ 488 := fun h => hc ⟨h1, h⟩; omega
              · right; left; simpa using h1
            clear hd hd1
            cases hc1 : cmdR ⟨A0, A1, A2, A3, os, p, ki, o⟩
            · rw [hc1] at hr
              clear hc hc1
              go_wp2_with fail
              refine hr.mono ?_
              rintro e w8 ⟨rfl, hk8⟩
              have HZ8 := hide (HI.out.z.kept hk8 (fun h => h))
              have HK8 := hide hk8
              clear hk8 hr
              go_wp2_with ((show Go.wpList _ _ _ (Oper.mk none (Op.store _ _ _) _ _ _ _ :: _) _ _); refine wpList_store_row rfl _ (.tmp 2) (.tmp 69) rfl w.heap.size _ rfl rfl _ _ HZ8.out (by kernel_rfl) rfl (by simp [Value.oneCell']) ?_)
              refine bodyPost_ret (results_row_tmp Tryz.results9 _ _ w.heap.size _ _ _ _ rfl (setRow_heap _ _ _ _ _ _ HZ8.out) Tryz.underlying35 rfl (by kernel_rfl)) rfl ?_
              exact ⟨none, 0, by rw [E.out]; rfl, by rw [E.out]; exact World.ownsRow_nil _ _ _ _, (HI.out.keeps.trans' HK8.out).trans (keeps_setRow _ _ _) (fun i hi e => by omega)⟩
            · rw [hc1] at hr
              have hlen : 488 < s.length := by
                have : ¬ s.length ≤ 488 := fun h => hc ⟨hc1, h⟩
                omega
              clear hc hc1
              go_wp2_with fail
              refine hr.mono ?_
              rintro e w8 ⟨rfl, hk8⟩
              have HZ8 := hide (HI.out.z.kept hk8 (fun h => h))
              have HK8 := hide hk8
              clear hk8 hr
              go_wp2_with ((show Go.wpList _ _ _ (Oper.mk none (Op.store _ _ _) _ _ _ _ :: _) _ _); refine wpList_store_row rfl _ (.tmp 2) (.tmp 69) rfl w.heap.size _ rfl rfl _ _ HZ8.out (by kernel_rfl) rfl (by simp [Value.oneCell']) ?_)
              refine bodyPost_ret (results_row_tmp Tryz.results9 _ _ w.heap.size _ _ _ _ rfl (setRow_heap _ _ _ _ _ _ HZ8.out) Tryz.underlying35 rfl (by kernel_rfl)) rfl ?_
              exact ⟨none, 0, by rw [E.out]; rfl, by rw [E.out]; exact World.ownsRow_nil _ _ _ _, (HI.out.keeps.trans' HK8.out).trans (keeps_setRow _ _ _) (fun i hi e => by omega)⟩
theorem read_cmd (w : World) (s : List UInt8) (hs : s.length ≤ 9223372036854775807) :
    Calls Tryz.prog 9 #[.string (S s)] w fun e w' => ∃ A cap, e = .returned (.tuple #[cmdV (readF s).1 A cap, .int .i64 (readF s).2]) ∧ OpSrc w' A (readF s).1.ops ∧ Keeps (fun _ => False) w w' := by
  refine (read_row w s hs).mono ?_
  rintro e w' ⟨A, cap, rfl, hr, hk⟩
  obtain ⟨A', c', e', _, _, hsrc, _⟩ := Row.form (Row.unbased hr)
  injection e' with e1 e2 e3
  subst e1
  exact ⟨A, cap, rfl, hsrc, hk⟩
end

section
set_option linter.unusedVariables false
open Go.RowKit

theorem opT_eq (o p : OpT) : decide (o = p) = ((o.does == p.does) && ((o.path == p.path) && ((o.data == p.data) && ((o.version == p.version) && ((o.serial == p.serial) && ((o.own == p.own) && true)))))) := by
  obtain ⟨odoes, opath, odata, over, oser, oown⟩ := o
  obtain ⟨pdoes, ppath, pdata, pver, pser, pown⟩ := p
  rw [Bool.eq_iff_iff]
  simp
theorem ef_cons {P : Program} {w : World} {d : Nat} {xs ys : Array Value} {f : Field} {fs : List Field} (a b : Value) {r s : Bool} (hn : f.name ≠ "_") (ha : (part f.type xs f.offset).run P w = .ok a w) (hb : (part f.type ys f.offset).run P w = .ok b w)
    (hr : (Op.equalIn d f.type a b).run P w = .ok r w) (hrest : (Op.eqFields d xs ys fs).run P w = .ok s w) : (Op.eqFields d xs ys (f :: fs)).run P w = .ok (r && s) w := by
  unfold Op.eqFields
  rw [if_pos hn]
  simp only [Sem.run_bind, ha, hb, hr, Result.andThen_ok]
  cases r <;> simp [hrest]
theorem ef_nil {P : Program} {w : World} {d : Nat} {xs ys : Array Value} : (Op.eqFields d xs ys []).run P w = .ok true w := rfl
theorem neq_of {P : Program} {w : World} {t : TypeId} {fs : Array Field} {xs ys : Array Value} {b : Bool} (ht : P.underlying t = some (.struct fs)) (hp : P.stoodInHeld t = false) (h : (Op.eqFields 9999 xs ys fs.toList).run P w = .ok b w) :
    (binOp .neq t (.agg xs) (.agg ys)).run P w = .ok (.bool (!b)) w := by
  have e : P.fieldsOf t = fs := by simp [Program.fieldsOf, ht]
  subst e
  rw [run_neq_struct, run_equalIn_struct _ 9999 _ _ _ ht hp, h]
  rfl
theorem str_eq {P : Program} {w : World} {d : Nat} {t : TypeId} {a b : List UInt8} (h : P.underlying t = some .string) : (Op.equalIn (d + 1) t (.string (S a)) (.string (S b))).run P w = .ok (a == b) w := by
  rw [run_equalIn_string _ _ _ _ _ h]; simp
theorem neq_op (w : World) (o p : OpT) : (binOp .neq 71 (opV o) (opV p)).run Tryz.prog w = .ok (.bool (!decide (o = p))) w := by
  rw [opT_eq]
  exact neq_of Tryz.underlying71 (by kernel_rfl)
    (ef_cons (.int .i64 o.does) (.int .i64 p.does) (by decide) (by kernel_rfl) (by kernel_rfl) (run_equalIn_int _ 9998 _ _ _ _ _ Tryz.underlying69)
    (ef_cons (.string (S o.path)) (.string (S p.path)) (by decide) (by kernel_rfl) (by kernel_rfl) (str_eq (d := 9998) Tryz.underlying9)
    (ef_cons (.string (S o.data)) (.string (S p.data)) (by decide) (by kernel_rfl) (by kernel_rfl) (str_eq (d := 9998) Tryz.underlying9)
    (ef_cons (.int .i64 o.version) (.int .i64 p.version) (by decide) (by kernel_rfl) (by kernel_rfl) (run_equalIn_int _ 9998 _ _ _ _ _ Tryz.underlying3)
    (ef_cons (.bool o.serial) (.bool p.serial) (by decide) (by kernel_rfl) (by kernel_rfl) (run_equalIn_bool' _ 9998 _ _ _ Tryz.underlying4)
    (ef_cons (.bool o.own) (.bool p.own) (by decide) (by kernel_rfl) (by kernel_rfl) (run_equalIn_bool' _ 9998 _ _ _ Tryz.underlying4) ef_nil))))))

set_option maxRecDepth 100000 in
set_option maxHeartbeats 1000000 in
theorem equal_ops (w : World) (A B : Option Addr) (c d : Nat) (xs ys : List OpT) (hx : OpSrc w A xs) (hy : OpSrc w B ys) (hlx : xs.length ≤ 9223372036854775807) (hly : ys.length ≤ 9223372036854775807) :
    Calls Tryz.prog 53 #[.slice A xs.length c, .slice B ys.length d] w fun e w' => e = .returned (.bool (decide (xs = ys))) ∧ Keeps (fun _ => False) w w' := by
  by_cases hl : xs.length = ys.length
  · go_enter Tryz.func53, Tryz.ntmps53
    go_wp2_with fail
    go_loopw [13] (fun i wr => ∃ k : Nat, k ≤ xs.length ∧ i = .int .i64 k ∧ xs.take k = ys.take k ∧ Keeps (fun _ => False) w wr) (fun i _ => xs.length - (intOf i).toNat)
    case atStart => exact ⟨0, by omega, rfl, rfl, Keeps.refl _ _⟩
    case round =>
      obtain ⟨k, hk, rfl, heq, hK⟩ := hrel
      have HE := hide heq
      have HL := hide hl
      have hly2 : k ≤ ys.length := by omega
      clear heq
      by_cases hlt : k < xs.length
      · have hlt2 : k < ys.length := by omega
        clear hl
        obtain ⟨ad, o, rfl, hx1, c0, c1, c2, c3, c4, c5⟩ := ops_at (hx.keep hK (fun _ _ h => h)) hlt
        obtain ⟨bd, p, rfl, hy1, d0, d1, d2, d3, d4, d5⟩ := ops_at (hy.keep hK (fun _ _ h => h)) hlt2
        have HX := hide hx1
        have HY := hide hy1
        have HK := hide hK
        clear hx1 hy1 hx hy hK
        obtain ⟨odoes, opath, odata, over, oser, oown⟩ := o
        obtain ⟨pdoes, ppath, pdata, pver, pser, pown⟩ := p
        simp only at c0 c1 c2 c3 c4 c5 d0 d1 d2 d3 d4 d5
        have hneq : ∀ w', (binOp .neq 71 (.agg #[.int .i64 odoes, .string (S opath), .string (S odata), .int .i64 over, .bool oser, .bool oown]) (.agg #[.int .i64 pdoes, .string (S ppath), .string (S pdata), .int .i64 pver, .bool pser, .bool pown])).run Tryz.prog w' = .ok (.bool (!decide ((⟨odoes, opath, odata, over, oser, oown⟩ : OpT) = ⟨pdoes, ppath, pdata, pver, pser, pown⟩))) w' := fun w' => neq_op w' ⟨odoes, opath, odata, over, oser, oown⟩ ⟨pdoes, ppath, pdata, pver, pser, pown⟩
        generalize hD : decide ((⟨odoes, opath, odata, over, oser, oown⟩ : OpT) = ⟨pdoes, ppath, pdata, pver, pser, pown⟩) = D at hneq
        have HD := hide hD
        clear hD
        cases D
        all_goals
         go_wp2_with fail
         go_quiet (fail)
         go_wp2_with fail
        · go_ret
          refine ⟨?_, HK.out.drewN _⟩
          have hne : xs ≠ ys := fun e => by
            subst e
            have := HX.out.symm.trans HY.out
            injection this with this
            have h2 := HD.out
            rw [this] at h2
            simp at h2
          have e : decide (xs = ys) = false := by simpa using hne
          rw [e]
          rfl
        · go_roundw
          case rel =>
            refine ⟨k + 1, by omega, by go_num, ?_, HK.out.drewN _⟩
            have h2 := HD.out
            simp only [decide_eq_true_eq] at h2
            obtain ⟨hk1, e1⟩ := List.getElem?_eq_some_iff.1 HX.out
            obtain ⟨hk2, e2⟩ := List.getElem?_eq_some_iff.1 HY.out
            rw [List.take_succ_eq_append_getElem hk1, List.take_succ_eq_append_getElem hk2, HE.out, e1, e2, h2]
          case measure => simp [intOf]; omega
      · have hk2 : k = xs.length := by omega
        have e : decide (xs = ys) = true := by
          have h1 := HE.out
          rw [List.take_of_length_le (by omega), List.take_of_length_le (by rw [← HL.out]; omega)] at h1
          simp [h1]
        have E := hide e
        clear e
        go_wp2_with fail
        go_ret
        exact ⟨by rw [E.out]; rfl, hK⟩
  · have e : decide (xs = ys) = false := by
      simp only [decide_eq_false_iff_not]
      rintro rfl
      exact hl rfl
    have hne : ((xs.length : Int) != (ys.length : Int)) = true := by simp; omega
    rw [e]
    clear e hl
    go_enter Tryz.func53, Tryz.ntmps53
    go_wp2_with fail
    go_ret
    exact ⟨rfl, Keeps.refl _ _⟩

set_option maxRecDepth 100000 in
set_option maxHeartbeats 2000000 in
theorem same_cmd (w : World) (c d : CmdT) (A B : Option Addr) (cap cbp : Nat) (hc : OpSrc w A c.ops) (hd : OpSrc w B d.ops) (hlc : c.ops.length ≤ 9223372036854775807) (hld : d.ops.length ≤ 9223372036854775807) :
    Calls Tryz.prog 32 #[cmdV c A cap, cmdV d B cbp] w fun e w' => e = .returned (.bool (decide (c = d))) ∧ Keeps (fun _ => False) w w' := by
  obtain ⟨kind, session, req, noted, ops, path, kids, once⟩ := c
  obtain ⟨kind2, session2, req2, noted2, ops2, path2, kids2, once2⟩ := d
  simp only at hc hd hlc hld
  have HQ : Hid (∀ w', Keeps (fun _ => False) w w' → Calls Tryz.prog 53 #[.slice A ops.length cap, .slice B ops2.length cbp] w' fun e w2 => e = .returned (.bool (decide (ops = ops2))) ∧ Keeps (fun _ => False) w' w2) :=
    fun w' hk => equal_ops w' A B cap cbp ops ops2 (hc.keep hk (fun _ _ h => h)) (hd.keep hk (fun _ _ h => h)) hlc hld
  clear hc hd
  generalize hD : decide (ops = ops2) = D at HQ
  have HD := hide hD
  clear hD
  cases D
  all_goals
    go_enter Tryz.func32, Tryz.ntmps32
    go_wp2_with (go_at_call 53; refine (HQ.out _ (((Keeps.refl _ w).alloc _).alloc _)).mono ?_; rintro e w1 ⟨rfl, hk1⟩; have hb1 := hk1.heap (heap_alloc2_old w _ _) (fun h => h); have hb2 := hk1.heap (heap_alloc2_new w _ _) (fun h => h); have q1 : w1.cell? ⟨w.heap.size, 5, none⟩ = some (.string (S path)) := cell_of_row _ _ 5 _ _ _ hb1; have q2 : w1.cell? ⟨w.heap.size, 6, none⟩ = some (.bool kids) := cell_of_row _ _ 6 _ _ _ hb1; have q3 : w1.cell? ⟨w.heap.size, 7, none⟩ = some (.bool once) := cell_of_row _ _ 7 _ _ _ hb1; have q4 : w1.cell? ⟨w.heap.size + 1, 5, none⟩ = some (.string (S path2)) := cell_of_row _ _ 5 _ _ _ hb2; have q5 : w1.cell? ⟨w.heap.size + 1, 6, none⟩ = some (.bool kids2) := cell_of_row _ _ 6 _ _ _ hb2; have q6 : w1.cell? ⟨w.heap.size + 1, 7, none⟩ = some (.bool once2) := cell_of_row _ _ 7 _ _ _ hb2; clear hb1 hb2)
    all_goals
      go_ret
      refine ⟨congrArg (fun b => Ending.returned (.bool b)) ?_, ?_⟩
      · have hd := HD.out
        simp only [decide_eq_true_eq, decide_eq_false_iff_not] at hd
        rw [Bool.eq_iff_iff]
        try simp [hd]
        try grind
      · first | exact ((Keeps.refl _ w).alloc _).alloc _ | exact (((Keeps.refl _ w).alloc _).alloc _).trans' hk1
end

section
set_option linter.unusedVariables false
open Go.RowKit

structure OutT where
  path : List UInt8
  version : Int
deriving DecidableEq
structure ResT where
  e : Int
  at_ : Int
  outs : List OutT
  when : Int
deriving DecidableEq
def outC (o : OutT) : List Value := [.string (S o.path), .int .i64 o.version]
abbrev resV (r : ResT) (A : Option Addr) (cap : Nat) : Value := .agg #[.int .i64 r.e, .int .i64 r.at_, .slice A r.outs.length cap, .int .i64 r.when]
abbrev OutSrc (w : World) (A : Option Addr) (os : List OutT) : Prop := Src w 2 A os.length (os.flatMap outC)
theorem outs_at {w : World} {A : Option Addr} {os : List OutT} (h : OutSrc w A os) {k : Nat} (hk : k < os.length) :
    ∃ ad o, A = some ad ∧ os[k]? = some o ∧ w.cell? (ad.add (k * 2)) = some (.string (S o.path)) ∧ w.cell? ⟨(ad.add (k * 2)).block, (ad.add (k * 2)).off + 1, none⟩ = some (.int .i64 o.version) := by
  obtain ⟨ad, e, hc⟩ := h.2 (by omega)
  have ha := List.getElem?_eq_getElem hk
  have hf := flat_at outC 2 (fun _ => rfl) os k _ ha
  refine ⟨ad, os[k], e, ha, hc _ _ (hf 0 _ rfl), ?_⟩
  rw [← add_succ, add_add]; exact hc _ _ (hf 1 _ rfl)

def outB (o : OutT) : List UInt8 := txts [o.path] ++ nums [o.version]
def resB (r : ResT) : List UInt8 := nums [r.e, r.at_, r.when, (r.outs.length : Int)] ++ r.outs.flatMap outB
theorem outB_le (o : OutT) : (outB o).length ≤ 65543 := by
  have h := cut16_le o.path
  simp only [outB, List.length_append, nums_length, txts, List.flatMap_cons, List.flatMap_nil, txt_length, List.length_cons, List.length_nil]
  omega
theorem outsB_le (os : List OutT) : (os.flatMap outB).length ≤ 65543 * os.length := by
  induction os with
  | nil => simp
  | cons o r ih =>
    have h1 := outB_le o
    simp only [List.flatMap_cons, List.length_append, List.length_cons]
    omega
theorem flat_take {α β : Type} (f : α → List β) (l : List α) (k : Nat) (a : α) (h : l[k]? = some a) : (l.take (k + 1)).flatMap f = (l.take k).flatMap f ++ f a := by
  obtain ⟨hk, rfl⟩ := List.getElem?_eq_some_iff.1 h
  rw [List.take_succ_eq_append_getElem hk, List.flatMap_append]
  simp

set_option maxRecDepth 100000 in
set_option maxHeartbeats 1000000 in
theorem bytes_res (w : World) (r : ResT) (A : Option Addr) (cap : Nat) (h : OutSrc w A r.outs) (hl : r.outs.length ≤ 1000) :
    Calls Tryz.prog 67 #[resV r A cap] w fun e w' => e = .returned (.string (S (resB r))) ∧ Keeps (fun _ => False) w w' := by
  obtain ⟨x, at_, outs, when⟩ := r
  simp only at h hl
  go_enter Tryz.func67, Tryz.ntmps67
  go_wp2_with fail
  refine (s_num [x, at_, when, (outs.length : Int)] ((((Sat.start w).box _ _ rfl).bytesNil).box _ _ (by simp)) rfl (by simp) (by simp)).mono ?_
  rintro e w1 ⟨v1, rfl, S1⟩
  have q2 : w1.cell? ⟨w.heap.size, 2, none⟩ = some (.slice A outs.length cap) := S1.p1.cell 2 _ rfl
  have HE : Hid (resB ⟨x, at_, outs, when⟩ = nums [x, at_, when, (outs.length : Int)] ++ outs.flatMap outB) := rfl
  rw [List.nil_append] at S1
  generalize hN : nums [x, at_, when, (outs.length : Int)] = N at *
  have hNl : N.length = 24 := by rw [← hN]; rfl
  have HN := hide hN
  clear hN
  go_wp2_with fail
  go_loopw [3, 20] (fun b i wr => ∃ k : Nat, k ≤ outs.length ∧ i = .int .i64 k ∧ Sat w wr [bytesA b (N ++ (outs.take k).flatMap outB), oldA w]) (fun _ i _ => outs.length - (intOf i).toNat)
  case atStart => exact ⟨0, by omega, rfl, by simpa using S1.p1.drop⟩
  case round =>
    obtain ⟨k, hk, rfl, S2⟩ := hrel
    have hle := outsB_le (outs.take k)
    have hle2 : (outs.take k).length ≤ k := List.length_take_le _ _
    by_cases hlt : k < outs.length
    · obtain ⟨ad, o, rfl, hx, c0, c1⟩ := outs_at (h.keepB (by decide) S2.p1.keeps (fun k hk h => by omega)) hlt
      have HT := hide (flat_take outB outs k o hx)
      clear hx
      obtain ⟨p, ver⟩ := o
      simp only at c0 c1
      generalize hLL : (outs.take k).flatMap outB = LL at *
      have HLL := hide hLL
      clear hLL
      have hb : (N ++ LL).length ≤ 70000000 := by rw [List.length_append]; omega
      go_upto_region 5 with fail
      have ht := txts_le [p]
      have ht : (txts [p]).length ≤ 65537 := ht
      go_region_held3 (fun w' => w'.cell? ⟨wr.heap.size, 0, none⟩ = some (.string (S p)) ∧ w'.cell? ⟨wr.heap.size, 1, none⟩ = some (.int .i64 ver)) (go_keep) (first
            | (go_at_call 57; refine (s_text [p] (g := w) (l := N ++ LL) (by (repeat (first | refine Sat.drew ?_ | refine Sat.drewN ?_ _)); first | exact ((S2.box _ _ rfl).p1).box _ _ (by simp) | exact (((S2.box _ _ rfl).p1.box _ _ rfl).p1).box _ _ (by simp) | exact (((S2.box _ _ rfl).p1.box _ _ (by simp)).box _ _ rfl).b2) rfl (by omega) (by simp)).mono ?_; rintro e w4 ⟨v4, rfl, S4⟩; (try simp only [World.size_alloc] at S4); have q8 : w4.cell? ⟨wr.heap.size, 0, none⟩ = some (.string (S p)) := S4.cell_of (t := 109) (cs := #[.string (S p), .int .i64 ver]) (by simp) 0 _ rfl; have q9 : w4.cell? ⟨wr.heap.size, 1, none⟩ = some (.int .i64 ver) := S4.cell_of (t := 109) (cs := #[.string (S p), .int .i64 ver]) (by simp) 1 _ rfl)
            | (go_at_call 55; refine (s_num [ver] (g := w) (l := N ++ LL ++ txts [p]) (by (repeat (first | refine Sat.drew ?_ | refine Sat.drewN ?_ _)); first | exact S4.box _ _ rfl | exact S4.p1) rfl (by rw [List.length_append]; omega) (by simp)).mono ?_; rintro e w5 ⟨v5, rfl, S5⟩; have q8 : w5.cell? ⟨wr.heap.size, 0, none⟩ = some (.string (S p)) := S5.cell_of (t := 109) (cs := #[.string (S p), .int .i64 ver]) (by simp) 0 _ rfl; have q9 : w5.cell? ⟨wr.heap.size, 1, none⟩ = some (.int .i64 ver) := S5.cell_of (t := 109) (cs := #[.string (S p), .int .i64 ver]) (by simp) 1 _ rfl))
      all_goals
        go_wp2_with fail
        go_roundw
        case rel =>
          refine ⟨k + 1, by omega, by go_num, ?_⟩
          rw [HT.out, ← List.append_assoc]
          simp only [outB, List.append_assoc] at S5 ⊢
          exact S5.b1.drop
        case measure => simp [intOf]; omega
    · obtain rfl : k = outs.length := by omega
      rw [List.take_length] at S2
      obtain ⟨A2, n2, cap2, e2, hsrc⟩ := S2.bytesForm
      subst e2
      have hconv := run_ofBytes (P := Tryz.prog) (dst := 9) Tryz.underlying99 Tryz.underlying5 Tryz.underlying9 hsrc cap2
      go_wp2_with fail
      go_ret
      exact ⟨by rw [HE.out]; rfl, S2.p1.keep_all⟩

theorem outT_eq (o p : OutT) : decide (o = p) = ((o.path == p.path) && ((o.version == p.version) && true)) := by
  obtain ⟨opath, over⟩ := o
  obtain ⟨ppath, pver⟩ := p
  rw [Bool.eq_iff_iff]
  simp
abbrev outV (o : OutT) : Value := .agg #[.string (S o.path), .int .i64 o.version]
theorem neq_out (w : World) (o p : OutT) : (binOp .neq 109 (outV o) (outV p)).run Tryz.prog w = .ok (.bool (!decide (o = p))) w := by
  rw [outT_eq]
  exact neq_of Tryz.underlying109 (by kernel_rfl)
    (ef_cons (.string (S o.path)) (.string (S p.path)) (by decide) (by kernel_rfl) (by kernel_rfl) (str_eq (d := 9998) Tryz.underlying9)
    (ef_cons (.int .i64 o.version) (.int .i64 p.version) (by decide) (by kernel_rfl) (by kernel_rfl) (run_equalIn_int _ 9998 _ _ _ _ _ Tryz.underlying3) ef_nil))

set_option maxRecDepth 100000 in
set_option maxHeartbeats 1000000 in
theorem equal_outs (w : World) (A B : Option Addr) (c d : Nat) (xs ys : List OutT) (hx : OutSrc w A xs) (hy : OutSrc w B ys) (hlx : xs.length ≤ 9223372036854775807) (hly : ys.length ≤ 9223372036854775807) :
    Calls Tryz.prog 54 #[.slice A xs.length c, .slice B ys.length d] w fun e w' => e = .returned (.bool (decide (xs = ys))) ∧ Keeps (fun _ => False) w w' := by
  by_cases hl : xs.length = ys.length
  · go_enter Tryz.func54, Tryz.ntmps54
    go_wp2_with fail
    go_loopw [13] (fun i wr => ∃ k : Nat, k ≤ xs.length ∧ i = .int .i64 k ∧ xs.take k = ys.take k ∧ Keeps (fun _ => False) w wr) (fun i _ => xs.length - (intOf i).toNat)
    case atStart => exact ⟨0, by omega, rfl, rfl, Keeps.refl _ _⟩
    case round =>
      obtain ⟨k, hk, rfl, heq, hK⟩ := hrel
      have HE := hide heq
      have HL := hide hl
      have hly2 : k ≤ ys.length := by omega
      clear heq
      by_cases hlt : k < xs.length
      · have hlt2 : k < ys.length := by omega
        clear hl
        obtain ⟨ad, o, rfl, hx1, c0, c1⟩ := outs_at (hx.keep hK (fun _ _ h => h)) hlt
        obtain ⟨bd, p, rfl, hy1, d0, d1⟩ := outs_at (hy.keep hK (fun _ _ h => h)) hlt2
        have HX := hide hx1
        have HY := hide hy1
        have HK := hide hK
        clear hx1 hy1 hx hy hK
        obtain ⟨opath, over⟩ := o
        obtain ⟨ppath, pver⟩ := p
        simp only at c0 c1 d0 d1
        have hneq : ∀ w', (binOp .neq 109 (.agg #[.string (S opath), .int .i64 over]) (.agg #[.string (S ppath), .int .i64 pver])).run Tryz.prog w' = .ok (.bool (!decide ((⟨opath, over⟩ : OutT) = ⟨ppath, pver⟩))) w' := fun w' => neq_out w' ⟨opath, over⟩ ⟨ppath, pver⟩
        generalize hD : decide ((⟨opath, over⟩ : OutT) = ⟨ppath, pver⟩) = D at hneq
        have HD := hide hD
        clear hD
        cases D
        all_goals
         go_wp2_with fail
         go_quiet (fail)
         go_wp2_with fail
        · go_ret
          refine ⟨?_, HK.out.drewN _⟩
          have hne : xs ≠ ys := fun e => by
            subst e
            have := HX.out.symm.trans HY.out
            injection this with this
            have h2 := HD.out
            rw [this] at h2
            simp at h2
          have e : decide (xs = ys) = false := by simpa using hne
          rw [e]
          rfl
        · go_roundw
          case rel =>
            refine ⟨k + 1, by omega, by go_num, ?_, HK.out.drewN _⟩
            have h2 := HD.out
            simp only [decide_eq_true_eq] at h2
            obtain ⟨hk1, e1⟩ := List.getElem?_eq_some_iff.1 HX.out
            obtain ⟨hk2, e2⟩ := List.getElem?_eq_some_iff.1 HY.out
            rw [List.take_succ_eq_append_getElem hk1, List.take_succ_eq_append_getElem hk2, HE.out, e1, e2, h2]
          case measure => simp [intOf]; omega
      · have hk2 : k = xs.length := by omega
        have e : decide (xs = ys) = true := by
          have h1 := HE.out
          rw [List.take_of_length_le (by omega), List.take_of_length_le (by rw [← HL.out]; omega)] at h1
          simp [h1]
        have E := hide e
        clear e
        go_wp2_with fail
        go_ret
        exact ⟨by rw [E.out]; rfl, hK⟩
  · have e : decide (xs = ys) = false := by
      simp only [decide_eq_false_iff_not]
      rintro rfl
      exact hl rfl
    have hne : ((xs.length : Int) != (ys.length : Int)) = true := by simp; omega
    rw [e]
    clear e hl
    go_enter Tryz.func54, Tryz.ntmps54
    go_wp2_with fail
    go_ret
    exact ⟨rfl, Keeps.refl _ _⟩


set_option maxRecDepth 100000 in
set_option maxHeartbeats 2000000 in
theorem same_res (w : World) (c d : ResT) (A B : Option Addr) (cap cbp : Nat) (hc : OutSrc w A c.outs) (hd : OutSrc w B d.outs) (hlc : c.outs.length ≤ 9223372036854775807) (hld : d.outs.length ≤ 9223372036854775807) :
    Calls Tryz.prog 33 #[resV c A cap, resV d B cbp] w fun e w' => e = .returned (.bool (decide (c = d))) ∧ Keeps (fun _ => False) w w' := by
  obtain ⟨x, at_, outs, when⟩ := c
  obtain ⟨x2, at2, outs2, when2⟩ := d
  simp only at hc hd hlc hld
  have HQ : Hid (∀ w', Keeps (fun _ => False) w w' → Calls Tryz.prog 54 #[.slice A outs.length cap, .slice B outs2.length cbp] w' fun e w2 => e = .returned (.bool (decide (outs = outs2))) ∧ Keeps (fun _ => False) w' w2) :=
    fun w' hk => equal_outs w' A B cap cbp outs outs2 (hc.keep hk (fun _ _ h => h)) (hd.keep hk (fun _ _ h => h)) hlc hld
  clear hc hd
  generalize hD : decide (outs = outs2) = D at HQ
  have HD := hide hD
  clear hD
  cases D
  all_goals
    go_enter Tryz.func33, Tryz.ntmps33
    go_wp2_with (go_at_call 54; refine (HQ.out _ (((Keeps.refl _ w).alloc _).alloc _)).mono ?_; rintro e w1 ⟨rfl, hk1⟩; have hb1 := hk1.heap (heap_alloc2_old w _ _) (fun h => h); have hb2 := hk1.heap (heap_alloc2_new w _ _) (fun h => h); have q1 : w1.cell? ⟨w.heap.size, 3, none⟩ = some (.int .i64 when) := cell_of_row _ _ 3 _ _ _ hb1; have q4 : w1.cell? ⟨w.heap.size + 1, 3, none⟩ = some (.int .i64 when2) := cell_of_row _ _ 3 _ _ _ hb2; clear hb1 hb2)
    all_goals
      go_ret
      refine ⟨congrArg (fun b => Ending.returned (.bool b)) ?_, ?_⟩
      · have hd := HD.out
        simp only [decide_eq_true_eq, decide_eq_false_iff_not] at hd
        rw [Bool.eq_iff_iff]
        try simp [hd]
        try grind
      · first | exact ((Keeps.refl _ w).alloc _).alloc _ | exact (((Keeps.refl _ w).alloc _).alloc _).trans' hk1
end

section
set_option linter.unusedVariables false
open Go.RowKit

theorem slOut : Sl Tryz.prog 39 109 2 24 (.agg #[.string ⟨#[]⟩, .int .i64 0]) := .mk' Tryz.underlying39 (by kernel_rfl) rfl (by decide)
def rOut (x : RS) : OutT × RS := (⟨(rt x 60).1, (rn (rt x 60).2 281474976710655).1⟩, (rn (rt x 60).2 281474976710655).2)
def rOuts : Nat → RS → List OutT × RS
  | 0, x => ([], x)
  | n + 1, x => ((rOuts n x).1 ++ [(rOut (rOuts n x).2).1], (rOut (rOuts n x).2).2)
theorem rOuts_length (n : Nat) (x : RS) : (rOuts n x).1.length = n := by
  induction n with
  | zero => rfl
  | succ n ih => simp [rOuts, ih]
def rR4 (a b c : Int) (n : Int) (x : RS) : ResT × RS := (⟨a, b, (rOuts n.toNat x).1, c⟩, (rOuts n.toNat x).2)
def rR3 (a b c : Int) (x : RS) : ResT × RS := rR4 a b c (rn x 4).1 (rn x 4).2
def rR2 (a b : Int) (x : RS) : ResT × RS := rR3 a b (rn x 281474976710655).1 (rn x 281474976710655).2
def rR1 (a : Int) (x : RS) : ResT × RS := rR2 a (rn x 4).1 (rn x 4).2
def rRes (x : RS) : ResT × RS := rR1 (rn x 1024).1 (rn x 1024).2
def noRes : ResT := ⟨0, 0, [], 0⟩
def ansF (s : List UInt8) : ResT × Int := if rdone (rRes (s, false)).2 ≠ 0 then (noRes, 2) else ((rRes (s, false)).1, 0)

set_option maxRecDepth 100000 in
set_option maxHeartbeats 2000000 in
theorem answer_row (w : World) (s : List UInt8) (hs : s.length ≤ 9223372036854775807) :
    Calls Tryz.prog 30 #[.string (S s)] w fun e w' => ∃ A cap, e = .returned (.tuple #[resV (ansF s).1 A cap, .int .i64 (ansF s).2]) ∧ Sat w w' [rowA 109 2 (.slice A (ansF s).1.outs.length cap) (ansF s).1.outs.length ((ansF s).1.outs.flatMap outC), oldA w] := by
  go_enter Tryz.func30, Tryz.ntmps30
  go_wp2_with fail
  refine (s_read ((Sat.start w).box _ _ rfl) s hs).mono ?_
  rintro e w1 ⟨r, rfl, S1⟩
  have EC : Hid (rRes (s, false) = rR1 (rn (s, false) 1024).1 (rn (s, false) 1024).2) := rfl
  go_wp2_with fail
  refine (s_rnum 1024 S1).mono ?_
  rintro e w2 ⟨rfl, S2⟩
  generalize rn (s, false) 1024 = a1 at *
  go_wp2_with fail
  refine (s_rnum 4 S2).mono ?_
  rintro e w3 ⟨rfl, S3⟩
  replace EC : Hid (rRes (s, false) = rR2 a1.1 (rn a1.2 4).1 (rn a1.2 4).2) := EC.out
  generalize rn a1.2 4 = a2 at *
  go_wp2_with fail
  refine (s_rnum _ S3).mono ?_
  rintro e w4 ⟨rfl, S4⟩
  replace EC : Hid (rRes (s, false) = rR3 a1.1 a2.1 (rn a2.2 281474976710655).1 (rn a2.2 281474976710655).2) := EC.out
  generalize rn a2.2 281474976710655 = a3 at *
  go_wp2_with fail
  refine (s_rnum _ (S4.box _ _ rfl).p1).mono ?_
  rintro e w5 ⟨rfl, S5⟩
  replace EC : Hid (rRes (s, false) = rR4 a1.1 a2.1 a3.1 (rn a3.2 4).1 (rn a3.2 4).2) := EC.out
  have n4l := rn_lo a3.2 4
  have n4h := rn_hi a3.2 4 (by decide)
  generalize rn a3.2 4 = a4 at *
  obtain ⟨n4, x4⟩ := a4
  obtain ⟨n, rfl⟩ := Int.eq_ofNat_of_zero_le n4l
  simp only at S5 n4h
  replace EC : Hid (rRes (s, false) = (⟨a1.1, a2.1, (rOuts n x4).1, a3.1⟩, (rOuts n x4).2)) := EC.out
  have hn4 : n ≤ 4 := by omega
  clear S1 S2 S3 S4 n4l n4h
  generalize a1.1 = E1 at *
  generalize a2.1 = E2 at *
  generalize a3.1 = E3 at *
  generalize w4.heap.size = rb at *
  go_wp2_with fail
  go_loopw [17] (fun i wr => ∃ k : Nat, k ≤ n ∧ i = .int .i64 k ∧ ∃ A c, Sat w wr [rdA r (rOuts k x4).2, cellsA rb 41 #[.int .i64 E1, .int .i64 E2, .slice A k c, .int .i64 E3], rowA 109 2 (.slice A k c) k ((rOuts k x4).1.flatMap outC), cellsA w.heap.size 41 #[.int .i64 0, .int .i64 0, .slice none 0 0, .int .i64 0], oldA w]) (fun i _ => n - (intOf i).toNat)
  case atStart => exact ⟨0, by omega, rfl, none, 0, (S5.nilRow _ _).b2⟩
  case round =>
    clear S5
    obtain ⟨k, hk, rfl, A, c, S6⟩ := hrel
    by_cases hlt : k < n
    · have EO : Hid (rOuts (k + 1) x4 = ((rOuts k x4).1 ++ [(rOut (rOuts k x4).2).1], (rOut (rOuts k x4).2).2)) := rfl
      generalize rOuts k x4 = X at *
      obtain ⟨os, x⟩ := X
      simp only at S6 EO
      have q2 : wr.cell? ⟨rb, 2, none⟩ = some (.slice A k c) := S6.cell_of (t := 41) (cs := #[.int .i64 E1, .int .i64 E2, .slice A k c, .int .i64 E3]) (by simp) 2 _ rfl
      go_upto_region 5 with fail
      go_region_law (first
        | (refine step_app slOut rfl (.tmp 20) (.tmp 26) rfl (g := w) (S := by first | exact (S8.box _ _ rfl).p3 | exact (S8.box _ _ rfl).drew.p3) rfl (Src.block (heap_alloc_new _ _) 2 1 rfl) rfl (by simp [Value.oneCell']) (by unfold maxLen; omega) (by omega) ?_; intro A9 c9 w9 S9; have q5 : w9.cell? ⟨rb, 2, none⟩ = some (.slice A k c) := S9.cell_of (t := 41) (cs := #[.int .i64 E1, .int .i64 E2, .slice A k c, .int .i64 E3]) (by simp) 2 _ rfl; have f5 : w9.frozen? ⟨rb, 2, none⟩ = false := S9.fz_of (t := 41) (cs := #[.int .i64 E1, .int .i64 E2, .slice A k c, .int .i64 E3]) (by simp) 2)
        | (go_simp; go_at_call 25; refine (s_rtext 60 (by first | exact S6 | exact S6.drew)).mono ?_; rintro e v1 ⟨rfl, S7⟩; have q3 : v1.cell? ⟨rb, 2, none⟩ = some (.slice A k c) := S7.cell_of (t := 41) (cs := #[.int .i64 E1, .int .i64 E2, .slice A k c, .int .i64 E3]) (by simp) 2 _ rfl)
        | (go_simp; go_at_call 24; refine (s_rnum _ (by first | exact S7 | exact S7.drew)).mono ?_; rintro e v2 ⟨rfl, S8⟩; have q4 : v2.cell? ⟨rb, 2, none⟩ = some (.slice A k c) := S8.cell_of (t := 41) (cs := #[.int .i64 E1, .int .i64 E2, .slice A k c, .int .i64 E3]) (by simp) 2 _ rfl; have l4 : rb < v2.heap.size := World.block_lt_of_cell? v2 _ q4))
      all_goals
        go_wp2_with fail
        go_roundw
        case rel =>
          refine ⟨k + 1, by omega, by go_num, A9, c9, ?_⟩
          rw [EO.out]
          have e1 : (os ++ [(rOut x).1]).flatMap outC = os.flatMap outC ++ #[.string (S (rt x 60).1), .int .i64 (rn (rt x 60).2 281474976710655).1].toList := by rw [List.flatMap_append]; rfl
          have S10 := (S9.p1.drop.p2.setc 2 (.slice A9 (k + 1) c9)).p2
          rw [← e1] at S10
          exact S10
        case measure => simp [intOf]; omega
    · obtain rfl : k = n := by omega
      have HOL := rOuts_length k x4
      have HE : Hid (ansF s = if rdone (rRes (s, false)).2 ≠ 0 then (noRes, 2) else ((rRes (s, false)).1, 0)) := rfl
      rw [EC.out] at HE
      clear EC
      generalize rOuts k x4 = X at *
      obtain ⟨os, x⟩ := X
      simp only at S6 HE HOL
      subst HOL
      go_wp2_with fail
      refine (s_rdone S6).mono ?_
      by_cases hd : rdone x = 0
      · rw [hd]
        rintro e w7 ⟨rfl, S7⟩
        obtain ⟨A', c', e', _, _, hsrc, hAd⟩ := Row.form S7.p2.row
        injection e' with e1 e2 e3
        subst e1 e3
        have q0 : w7.cell? ⟨rb, 0, none⟩ = some (.int .i64 E1) := S7.p1.cell 0 _ rfl
        have q1 : w7.cell? ⟨rb, 1, none⟩ = some (.int .i64 E2) := S7.p1.cell 1 _ rfl
        have q2 : w7.cell? ⟨rb, 2, none⟩ = some (.slice A os.length c) := S7.p1.cell 2 _ rfl
        have q3 : w7.cell? ⟨rb, 3, none⟩ = some (.int .i64 E3) := S7.p1.cell 3 _ rfl
        go_wp2_with ((show Go.wpList _ _ _ (Oper.mk none (Op.store _ _ _) _ _ _ _ :: _) _ _); refine wpList_sstore rfl _ (.tmp 2) (.tmp 34) rfl S7.p3 _ rfl rfl (by kernel_rfl) rfl (by simp [Value.oneCell']) ?_; intro S8)
        refine bodyPost_ret (results_row_tmp Tryz.results30 _ _ w.heap.size _ _ _ _ rfl S8.cells_get Tryz.underlying41 rfl (by kernel_rfl)) rfl ?_
        have E : ansF s = (⟨E1, E2, os, E3⟩, 0) := by rw [HE.out, if_neg (by simp [hd])]
        rw [E]
        exact ⟨A, c, rfl, S8.drop.drop.drop⟩
      · have hd2 : (rdone x != 0) = true := by simpa using hd
        rintro e w7 ⟨rfl, S7⟩
        go_wp2_with ((show Go.wpList _ _ _ (Oper.mk none (Op.store _ _ _) _ _ _ _ :: _) _ _); refine wpList_sstore rfl _ (.tmp 2) (.tmp 33) rfl S7.p3 _ rfl rfl (by kernel_rfl) rfl (by simp [Value.oneCell']) ?_; intro S8)
        refine bodyPost_ret (results_row_tmp Tryz.results30 _ _ w.heap.size _ _ _ _ rfl S8.cells_get Tryz.underlying41 rfl (by kernel_rfl)) rfl ?_
        have E : ansF s = (noRes, 2) := by rw [HE.out, if_pos hd]
        rw [E]
        exact ⟨none, 0, rfl, S8.p4.p1.drop.p1.drop.p1.drop.p1.drop.nilRow _ _⟩
theorem answer_res (w : World) (s : List UInt8) (hs : s.length ≤ 9223372036854775807) :
    Calls Tryz.prog 30 #[.string (S s)] w fun e w' => ∃ A cap, e = .returned (.tuple #[resV (ansF s).1 A cap, .int .i64 (ansF s).2]) ∧ OutSrc w' A (ansF s).1.outs ∧ Keeps (fun _ => False) w w' := by
  refine (answer_row w s hs).mono ?_
  rintro e w' ⟨A, cap, rfl, S1⟩
  obtain ⟨A', c', e', _, _, hsrc, _⟩ := Row.form S1.row
  injection e' with e1 e2 e3
  subst e1
  exact ⟨A, cap, rfl, hsrc, S1.p1.keep_all⟩

/-- a piece that a call made, beside what stood before -/
theorem Sat.fresh {g w w' : World} {L L2 : List Asn} {A : Asn} (S0 : Sat g w L) (S1 : Sat w w' (A :: oldA w :: L2)) (hA : ∀ h, A h → ∀ k o f, h k = some (o, f) → f = true) : Sat g w' (A :: L) := by
  have hk := S1.p1.keep_all
  obtain ⟨h, ⟨h1, h2, c1, rfl, a1, h3, h4, c2, rfl, rfl, _⟩, m⟩ := S1.mem
  refine S0.new hk h1 a1 (fun k o f e => m k o f (by simp [hjoin, e])) fun k hlt => ?_
  have := c1 k
  unfold compat hjoin at this
  have e0 : w.heap[k]? = some w.heap[k] := by simp [hlt]
  cases e : h1 k with
  | none => rfl
  | some x =>
    obtain ⟨o, f⟩ := x
    have hf := hA _ a1 k o f e
    subst hf
    simp only at this
    rw [e, e0] at this
    simp at this
theorem rowA_own {e : TypeId} {size : Nat} {v : Value} {n : Nat} {xs : List Value} : ∀ h, rowA e size v n xs h → ∀ k o f, h k = some (o, f) → f = true := by
  rintro h ⟨_, ⟨_, _, rfl⟩ | ⟨b, cap, cur, _, _, _, _, _, rfl⟩⟩ k o f e
  · cases e
  · unfold hone at e
    split at e
    · injection e with e; injection e with _ e; exact e.symm
    · cases e
end

section
set_option linter.unusedVariables false
/-! ### operations and commands -/
theorem rOp_app (o : OpT) (b : List UInt8) (h : opR o = true) : rOp (opB o ++ b, false) = (o, (b, false)) := by
  obtain ⟨h1, h2, h3, h4, h5, h6⟩ := opR_of h
  obtain ⟨does, path, data, version, serial, own⟩ := o
  simp only at h1 h2 h3 h4 h5 h6
  have e : opB ⟨does, path, data, version, serial, own⟩ ++ b = num6 does ++ (num6 (version + 1) ++ (txt path ++ (txt data ++ (fb serial :: (fb own :: b))))) := by
    simp [opB, nums, txts, flags]
  rw [e]
  unfold rOp rO2 rO3 rO4 rO5 rO6
  rw [rn_app does 4 _ (by omega) (by omega) (by omega)]
  simp only
  rw [rn_app (version + 1) _ _ (by omega) (by omega) (by omega)]
  simp only
  rw [rt_app path _ 60 (by omega) (by omega)]
  simp only
  rw [rt_app data _ 61 (by omega) (by omega)]
  simp only
  rw [rf_app]
  simp only
  rw [rf_app]
  simp
theorem rOp_took (x : RS) : Took x (opB (rOp x).1) (rOp x).2 := by
  have h1 := rn_took x 4
  have h2 := rn_took (rn x 4).2 281474976710655
  have h3 := rt_took (rn (rn x 4).2 281474976710655).2 60
  have h4 := rt_took (rt (rn (rn x 4).2 281474976710655).2 60).2 61
  have h5 := rf_took (rt (rt (rn (rn x 4).2 281474976710655).2 60).2 61).2
  have h6 := rf_took (rf (rt (rt (rn (rn x 4).2 281474976710655).2 60).2 61).2).2
  have h := h1.trans (h2.trans (h3.trans (h4.trans (h5.trans h6))))
  have e : opB (rOp x).1 = num6 (rn x 4).1 ++ (num6 ((rn (rn x 4).2 281474976710655).1 - 1 + 1) ++ (txt (rt (rn (rn x 4).2 281474976710655).2 60).1 ++ (txt (rt (rt (rn (rn x 4).2 281474976710655).2 60).2 61).1 ++ ([fb (rf (rt (rt (rn (rn x 4).2 281474976710655).2 60).2 61).2).1] ++ [fb (rf (rf (rt (rt (rn (rn x 4).2 281474976710655).2 60).2 61).2).2).1])))) := by
    simp [opB, nums, txts, flags, rOp, rO2, rO3, rO4, rO5, rO6]
  rw [e, Int.sub_add_cancel]
  exact h
theorem rOps_took (x : RS) (n : Nat) : Took x ((rOps n x).1.flatMap opB) (rOps n x).2 := by
  induction n with
  | zero => exact Took.nil x
  | succ n ih =>
    have h := ih.trans (rOp_took (rOps n x).2)
    simp only [rOps, List.flatMap_append, List.flatMap_cons, List.flatMap_nil, List.append_nil]
    exact h
theorem rOps_app (os : List OpT) (b : List UInt8) (h : ∀ o ∈ os, opR o = true) : ∀ k ≤ os.length, rOps k (os.flatMap opB ++ b, false) = (os.take k, ((os.drop k).flatMap opB ++ b, false)) := by
  intro k
  induction k with
  | zero => intro _; simp [rOps]
  | succ k ih =>
    intro hk
    rw [rOps, ih (by omega)]
    have hd : os.drop k = os[k] :: os.drop (k + 1) := List.drop_eq_getElem_cons (by omega)
    simp only
    rw [hd, List.flatMap_cons, List.append_assoc, rOp_app _ _ (h _ (List.getElem_mem _))]
    simp only
    rw [List.take_succ_eq_append_getElem (by omega)]
theorem rCmd_app (c : CmdT) (h : cmdR c = true) : rCmd (cmdB c, false) = (c, ([], false)) := by
  obtain ⟨h1, h2, h3, h4, h5, h6⟩ := cmdR_of h
  obtain ⟨kind, session, req, noted, ops, path, kids, once⟩ := c
  simp only at h1 h2 h3 h4 h5 h6
  simp only [numR, decide_eq_true_eq] at h3
  have e : cmdB ⟨kind, session, req, noted, ops, path, kids, once⟩ = num6 kind ++ (num6 session ++ (num6 req ++ (num6 noted ++ (num6 ops.length ++ (ops.flatMap opB ++ (txt path ++ (fb kids :: (fb once :: [])))))))) := by
    simp [cmdB, nums, txts, flags]
  rw [e]
  unfold rCmd rC2 rC3 rC4 rC5 rC6 rC7 rC8 rC9
  rw [rn_app kind 5 _ (by omega) (by omega) (by omega)]
  simp only
  rw [rn_app session _ _ (by omega) (by omega) (by omega)]
  simp only
  rw [rn_app req _ _ (by omega) (by omega) (by omega)]
  simp only
  rw [rn_app noted _ _ (by omega) (by omega) (by omega)]
  simp only
  rw [rn_app ops.length 4 _ (by omega) (by omega) (by omega)]
  simp only [Int.toNat_natCast]
  rw [rOps_app ops _ h5 ops.length (Nat.le_refl _)]
  simp only [List.drop_length, List.take_length, List.flatMap_nil, List.nil_append]
  rw [rt_app path _ 60 (by omega) (by omega)]
  simp only
  rw [rf_app]
  simp only
  rw [rf_app]
theorem rCmd_took (x : RS) : Took x (cmdB (rCmd x).1) (rCmd x).2 := by
  unfold rCmd rC2 rC3 rC4 rC5 rC6 rC7 rC8 rC9
  simp only
  have h1 := rn_took x 5
  generalize rn x 5 = a1 at *
  have h2 := rn_took a1.2 281474976710655
  generalize rn a1.2 281474976710655 = a2 at *
  have h3 := rn_took a2.2 281474976710655
  generalize rn a2.2 281474976710655 = a3 at *
  have h4 := rn_took a3.2 281474976710655
  generalize rn a3.2 281474976710655 = a4 at *
  have h5 := rn_took a4.2 4
  have hn := rn_lo a4.2 4
  generalize rn a4.2 4 = a5 at *
  have h6 := rOps_took a5.2 a5.1.toNat
  have hl := rOps_length a5.1.toNat a5.2
  generalize rOps a5.1.toNat a5.2 = a6 at *
  have h7 := rt_took a6.2 60
  generalize rt a6.2 60 = a7 at *
  have h8 := rf_took a7.2
  generalize rf a7.2 = a8 at *
  have h9 := rf_took a8.2
  generalize rf a8.2 = a9 at *
  have h := h1.trans (h2.trans (h3.trans (h4.trans (h5.trans (h6.trans (h7.trans (h8.trans h9)))))))
  have e : ((a6.1.length : Nat) : Int) = a5.1 := by omega
  have e2 : cmdB ⟨a1.1, a2.1, a3.1, a4.1, a6.1, a7.1, a8.1, a9.1⟩ = num6 a1.1 ++ (num6 a2.1 ++ (num6 a3.1 ++ (num6 a4.1 ++ (num6 a5.1 ++ (a6.1.flatMap opB ++ (txt a7.1 ++ ([fb a8.1] ++ [fb a9.1]))))))) := by
    simp [cmdB, nums, txts, flags, e]
  rw [e2]
  exact h

/-! ### the two laws -/
theorem readF_of {c : CmdT} {s : List UInt8} (h : bytesF c = (s, 0)) : readF s = (c, 0) := by
  unfold bytesF at h
  split at h
  · simp at h
  · rename_i hr
    split at h
    · simp at h
    · rename_i hl
      simp only [Prod.mk.injEq, and_true] at h
      subst h
      have hr' : cmdR c = true := by simpa using hr
      unfold readF
      rw [rCmd_app c hr']
      rw [if_neg (by simp [rdone, hr']; omega)]
theorem readF_bytes {s : List UInt8} (h : (readF s).2 = 0) : bytesF (readF s).1 = (s, 0) ∧ cmdR (readF s).1 = true := by
  unfold readF at h ⊢
  split at h
  · simp at h
  · rename_i hn
    rw [if_neg hn]
    simp only [not_or, ne_eq, Decidable.not_not, Bool.not_eq_false] at hn
    obtain ⟨h1, h2, h3⟩ := hn
    have h4 : (rCmd (s, false)).2 = ([], false) := by
      unfold rdone at h1
      split at h1
      · simp at h1
      · rename_i hq
        simp only [not_or, Bool.not_eq_true, ne_eq, Decidable.not_not] at hq
        exact Prod.ext hq.2 hq.1
    have h5 := (rCmd_took (s, false) (by rw [h4])).2
    rw [h4] at h5
    simp only [List.append_nil] at h5
    refine ⟨?_, h2⟩
    unfold bytesF
    show (if cmdR (rCmd (s, false)).1 = false then _ else _) = _
    rw [if_neg (by simp [h2]), ← h5, if_neg h3]
theorem readF_none {s : List UInt8} (h : (readF s).2 ≠ 0) : readF s = (noCmd, 2) := by
  unfold readF at h ⊢
  split at h
  · rename_i hn; rw [if_pos hn]
  · simp at h
end

section
set_option linter.unusedVariables false
open Go.RowKit

def outR (o : OutT) : Prop := o.path.length ≤ 60 ∧ 0 ≤ o.version ∧ o.version ≤ 281474976710655
def resR (r : ResT) : Prop := 0 ≤ r.e ∧ r.e ≤ 1024 ∧ 0 ≤ r.at_ ∧ r.at_ ≤ 4 ∧ 0 ≤ r.when ∧ r.when ≤ 281474976710655 ∧ r.outs.length ≤ 4 ∧ ∀ o ∈ r.outs, outR o

theorem rOut_app (o : OutT) (b : List UInt8) (h : outR o) : rOut (outB o ++ b, false) = (o, (b, false)) := by
  obtain ⟨h1, h2, h3⟩ := h
  obtain ⟨path, version⟩ := o
  simp only at h1 h2 h3
  have e : outB ⟨path, version⟩ ++ b = txt path ++ (num6 version ++ b) := by
    simp [outB, nums, txts]
  rw [e]
  unfold rOut
  rw [rt_app path _ 60 (by omega) (by omega)]
  simp only
  rw [rn_app version _ _ (by omega) (by omega) (by omega)]
theorem rOut_took (x : RS) : Took x (outB (rOut x).1) (rOut x).2 := by
  have h1 := rt_took x 60
  have h2 := rn_took (rt x 60).2 281474976710655
  have h := h1.trans h2
  have e : outB (rOut x).1 = txt (rt x 60).1 ++ num6 (rn (rt x 60).2 281474976710655).1 := by
    simp [outB, nums, txts, rOut]
  rw [e]
  exact h
theorem rOuts_took (x : RS) (n : Nat) : Took x ((rOuts n x).1.flatMap outB) (rOuts n x).2 := by
  induction n with
  | zero => exact Took.nil x
  | succ n ih =>
    have h := ih.trans (rOut_took (rOuts n x).2)
    simp only [rOuts, List.flatMap_append, List.flatMap_cons, List.flatMap_nil, List.append_nil]
    exact h
theorem rOuts_app (os : List OutT) (b : List UInt8) (h : ∀ o ∈ os, outR o) : ∀ k ≤ os.length, rOuts k (os.flatMap outB ++ b, false) = (os.take k, ((os.drop k).flatMap outB ++ b, false)) := by
  intro k
  induction k with
  | zero => intro _; simp [rOuts]
  | succ k ih =>
    intro hk
    rw [rOuts, ih (by omega)]
    have hd : os.drop k = os[k] :: os.drop (k + 1) := List.drop_eq_getElem_cons (by omega)
    simp only
    rw [hd, List.flatMap_cons, List.append_assoc, rOut_app _ _ (h _ (List.getElem_mem _))]
    simp only
    rw [List.take_succ_eq_append_getElem (by omega)]
theorem rRes_app (r : ResT) (h : resR r) : rRes (resB r, false) = (r, ([], false)) := by
  obtain ⟨h1, h2, h3, h4, h5, h6, h7, h8⟩ := h
  obtain ⟨x, at_, outs, when⟩ := r
  simp only at h1 h2 h3 h4 h5 h6 h7 h8
  have e : resB ⟨x, at_, outs, when⟩ = num6 x ++ (num6 at_ ++ (num6 when ++ (num6 outs.length ++ (outs.flatMap outB ++ [])))) := by
    simp [resB, nums]
  rw [e]
  unfold rRes rR1 rR2 rR3 rR4
  rw [rn_app x 1024 _ (by omega) (by omega) (by omega)]
  simp only
  rw [rn_app at_ _ _ (by omega) (by omega) (by omega)]
  simp only
  rw [rn_app when _ _ (by omega) (by omega) (by omega)]
  simp only
  rw [rn_app outs.length 4 _ (by omega) (by omega) (by omega)]
  simp only [Int.toNat_natCast]
  rw [rOuts_app outs _ h8 outs.length (Nat.le_refl _)]
  simp
theorem rRes_took (x : RS) : Took x (resB (rRes x).1) (rRes x).2 := by
  unfold rRes rR1 rR2 rR3 rR4
  simp only
  have h1 := rn_took x 1024
  generalize rn x 1024 = a1 at *
  have h2 := rn_took a1.2 4
  generalize rn a1.2 4 = a2 at *
  have h3 := rn_took a2.2 281474976710655
  generalize rn a2.2 281474976710655 = a3 at *
  have h4 := rn_took a3.2 4
  have hn := rn_lo a3.2 4
  generalize rn a3.2 4 = a5 at *
  have h6 := rOuts_took a5.2 a5.1.toNat
  have hl := rOuts_length a5.1.toNat a5.2
  generalize rOuts a5.1.toNat a5.2 = a6 at *
  have h := h1.trans (h2.trans (h3.trans (h4.trans h6)))
  have e : ((a6.1.length : Nat) : Int) = a5.1 := by omega
  have e2 : resB ⟨a1.1, a2.1, a6.1, a3.1⟩ = num6 a1.1 ++ (num6 a2.1 ++ (num6 a3.1 ++ (num6 a5.1 ++ a6.1.flatMap outB))) := by
    simp [resB, nums, e]
  rw [e2]
  exact h
theorem ansF_of {r : ResT} (h : resR r) : ansF (resB r) = (r, 0) := by
  unfold ansF
  rw [rRes_app r h, if_neg (by simp [rdone])]
theorem ansF_bytes {s : List UInt8} (h : (ansF s).2 = 0) : resB (ansF s).1 = s := by
  unfold ansF at h ⊢
  split at h
  · simp at h
  · rename_i hn
    rw [if_neg hn]
    simp only [ne_eq, Decidable.not_not] at hn
    have h4 : (rRes (s, false)).2 = ([], false) := by
      unfold rdone at hn
      split at hn
      · simp at hn
      · rename_i hq
        simp only [not_or, Bool.not_eq_true, ne_eq, Decidable.not_not] at hq
        exact Prod.ext hq.2 hq.1
    have h5 := (rRes_took (s, false) (by rw [h4])).2
    rw [h4] at h5
    simp only [List.append_nil] at h5
    exact h5.symm
theorem ansF_none {s : List UInt8} (h : (ansF s).2 ≠ 0) : ansF s = (noRes, 2) := by
  unfold ansF at h ⊢
  split at h
  · rename_i hn; rw [if_pos hn]
  · simp at h
theorem ansF_length (s : List UInt8) : (ansF s).1.outs.length ≤ 4 := by
  unfold ansF
  split
  · simp [noRes]
  · unfold rRes rR1 rR2 rR3 rR4
    simp only
    rw [rOuts_length]
    have := rn_hi (rn (rn (rn (s, false) 1024).2 4).2 281474976710655).2 4 (by decide)
    omega
end

end Go.Proofs.YtanlobdidjednaaGreatDoor
