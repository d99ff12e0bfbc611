/- Contracts of the package op, first part: which operations and commands may be. No condition. -/
import Derived.Test.YtcnehacblodiaaaDoorPithc
set_option linter.unusedVariables false
namespace Go.Proofs.YtcnehacblodiaaaDoor
open Go.RowKit

/-- an operation: does, path, data, version, serial, own -/
structure OpT where
  does : Int
  path : List UInt8
  data : List UInt8
  version : Int
  serial : Bool
  own : Bool
deriving DecidableEq
def opC (o : OpT) : List Value := [.int .i64 o.does, .string (S o.path), .string (S o.data), .int .i64 o.version, .bool o.serial, .bool o.own]
abbrev opV (o : OpT) : Value := .agg #[.int .i64 o.does, .string (S o.path), .string (S o.data), .int .i64 o.version, .bool o.serial, .bool o.own]

def opR (o : OpT) : Bool := decide (1 ≤ o.does) && decide (o.does ≤ 4) && decide (o.path.length ≤ 60) && decide (o.data.length ≤ 61) && decide (-1 ≤ o.version) && decide (o.version < 281474976710655)

set_option maxRecDepth 100000 in
theorem right_op (w : World) (o : OpT) (hp : o.path.length ≤ 9223372036854775807) (hd : o.data.length ≤ 9223372036854775807) :
    Calls Tryd.prog 49 #[opV o] w fun e w' => e = .returned (.bool (opR o)) ∧ w' = w.alloc (.cells #[.int .i64 o.does, .string (S o.path), .string (S o.data), .int .i64 o.version, .bool o.serial, .bool o.own] 35) := by
  obtain ⟨does, path, data, version, serial, own⟩ := o
  simp only at hp hd ⊢
  go_enter Tryd.func49, Tryd.ntmps49
  go_wp2_with fail
  all_goals
    go_ret
    refine ⟨congrArg (fun b => Ending.returned (.bool b)) ?_, rfl⟩
    rw [Bool.eq_iff_iff]
    simp [opR]
    try omega

/-- a list of operations, in memory -/
abbrev OpSrc (w : World) (A : Option Addr) (os : List OpT) : Prop := Src w 6 A os.length (os.flatMap opC)
theorem flat_at {α : Type} (f : α → List Value) (n : Nat) (hn : ∀ a, (f a).length = n) (l : List α) (k : Nat) (a : α) (h : l[k]? = some a) (j : Nat) (u : Value) (hj : (f a)[j]? = some u) : (l.flatMap f)[k * n + j]? = some u := by
  induction l generalizing k with
  | nil => simp at h
  | cons b r ih =>
    cases k with
    | zero =>
      simp only [List.getElem?_cons_zero, Option.some.injEq] at h
      subst h
      rw [List.flatMap_cons, Nat.zero_mul, Nat.zero_add, List.getElem?_append_left (List.getElem?_eq_some_iff.1 hj).1]
      exact hj
    | succ k =>
      simp only [List.getElem?_cons_succ] at h
      have := ih k h
      rw [List.flatMap_cons, List.getElem?_append_right (by rw [hn, Nat.succ_mul]; omega), ← this]
      congr 1
      rw [hn, Nat.succ_mul]
      omega
theorem ops_at {w : World} {A : Option Addr} {os : List OpT} (h : OpSrc w A os) {k : Nat} (hk : k < os.length) :
    ∃ ad o, A = some ad ∧ os[k]? = some o ∧ w.cell? (ad.add (k * 6)) = some (.int .i64 o.does) ∧ w.cell? ⟨(ad.add (k * 6)).block, (ad.add (k * 6)).off + 1, none⟩ = some (.string (S o.path)) ∧ w.cell? ⟨(ad.add (k * 6)).block, (ad.add (k * 6)).off + 2, none⟩ = some (.string (S o.data)) ∧
      w.cell? ⟨(ad.add (k * 6)).block, (ad.add (k * 6)).off + 3, none⟩ = some (.int .i64 o.version) ∧ w.cell? ⟨(ad.add (k * 6)).block, (ad.add (k * 6)).off + 4, none⟩ = some (.bool o.serial) ∧ w.cell? ⟨(ad.add (k * 6)).block, (ad.add (k * 6)).off + 5, none⟩ = some (.bool o.own) := by
  obtain ⟨ad, e, hc⟩ := h.2 (by omega)
  have ha := List.getElem?_eq_getElem hk
  have hf := flat_at opC 6 (fun _ => rfl) os k _ ha
  refine ⟨ad, os[k], e, ha, hc _ _ (hf 0 _ rfl), ?_, ?_, ?_, ?_, ?_⟩
  · rw [← add_succ, add_add]; exact hc _ _ (hf 1 _ rfl)
  · rw [← add_succ, add_add]; exact hc _ _ (hf 2 _ rfl)
  · rw [← add_succ, add_add]; exact hc _ _ (hf 3 _ rfl)
  · rw [← add_succ, add_add]; exact hc _ _ (hf 4 _ rfl)
  · rw [← add_succ, add_add]; exact hc _ _ (hf 5 _ rfl)

def OpOk (o : OpT) : Prop := o.path.length ≤ 9223372036854775807 ∧ o.data.length ≤ 9223372036854775807

theorem not_right (w : World) (o : OpT) (ho : OpOk o) :
    Calls Tryd.prog 48 #[opV o] w fun e w' => e = .returned (.bool (!opR o)) ∧ Keeps (fun _ => False) w w' := by
  have hr := fun w => right_op w o ho.1 ho.2
  obtain ⟨does, path, data, version, serial, own⟩ := o
  simp only at hr ⊢
  clear ho
  go_enter Tryd.func48, Tryd.ntmps48
  go_wp2_with fail
  refine (hr _).mono ?_
  rintro e w1 ⟨rfl, rfl⟩
  clear hr
  go_wp2_with fail
  go_ret
  exact ⟨rfl, ((Keeps.refl _ w).alloc _).alloc _⟩

def wrongF (os : List OpT) : Bool := os.any fun o => !opR o

set_option maxRecDepth 100000 in
theorem index_wrong (w : World) (A : Option Addr) (c : Nat) (os : List OpT) (h : OpSrc w A os) (hl : os.length ≤ 9223372036854775807) (ho : ∀ o ∈ os, OpOk o) :
    Calls Tryd.prog 83 #[.slice A os.length c, .func (.func 48) #[] #[]] w fun e w' => ∃ r : Int, e = .returned (.int .i64 r) ∧ decide (0 ≤ r) = wrongF os ∧ Keeps (fun _ => False) w w' := by
  have HO := hide ho
  clear ho
  go_enter Tryd.func83, Tryd.ntmps83
  go_wp2_with fail
  go_loopw [8] (fun i wr => ∃ k : Nat, k ≤ os.length ∧ i = .int .i64 k ∧ (∀ o ∈ os.take k, opR o = true) ∧ Keeps (fun _ => False) w wr) (fun i _ => os.length - (intOf i).toNat)
  case atStart => exact ⟨0, by omega, rfl, by simp, Keeps.refl _ _⟩
  case round =>
    obtain ⟨k, hk, rfl, hall, hK⟩ := hrel
    have HA := hide hall
    clear hall
    by_cases hlt : k < os.length
    · obtain ⟨ad, o, rfl, hx, c0, c1, c2, c3, c4, c5⟩ := ops_at (h.keep hK (fun _ _ h => h)) hlt
      have HX := hide hx
      have hok := HO.out o (List.mem_of_getElem? hx)
      clear hx
      go_wp2_with fail
      refine (not_right _ o hok).mono ?_
      cases hr : opR o
      · have HR := hide hr
        clear hr
        rintro e w1 ⟨rfl, hk1⟩
        go_wp2_with fail
        go_ret
        refine ⟨k, rfl, ?_, hK.trans' hk1⟩
        have e1 : wrongF os = true := by
          unfold wrongF
          rw [List.any_eq_true]
          exact ⟨o, List.mem_of_getElem? HX.out, by rw [HR.out]; rfl⟩
        rw [e1]
        simp
      · have HR := hide hr
        clear hr
        rintro e w1 ⟨rfl, hk1⟩
        go_wp2_with fail
        go_roundw
        case rel =>
          refine ⟨k + 1, by omega, by go_num, ?_, hK.trans' hk1⟩
          obtain ⟨hk', rfl⟩ := List.getElem?_eq_some_iff.1 HX.out
          rw [List.take_succ_eq_append_getElem hk']
          intro b hb
          rcases List.mem_append.1 hb with hb | hb
          · exact HA.out b hb
          · simp at hb; subst hb; exact HR.out
        case measure => simp [intOf]; omega
    · obtain rfl : k = os.length := by omega
      go_wp2_with fail
      go_ret
      refine ⟨-1, rfl, ?_, hK⟩
      have e1 : wrongF os = false := by
        unfold wrongF
        rw [List.any_eq_false]
        intro b hb
        have := HA.out b (by rw [List.take_length]; exact hb)
        simp [this]
      rw [e1]
      rfl

theorem has_wrong (w : World) (A : Option Addr) (c : Nat) (os : List OpT) (h : OpSrc w A os) (hl : os.length ≤ 9223372036854775807) (ho : ∀ o ∈ os, OpOk o) :
    Calls Tryd.prog 47 #[.slice A os.length c, .func (.func 48) #[] #[]] w fun e w' => e = .returned (.bool (wrongF os)) ∧ Keeps (fun _ => False) w w' := by
  have hi := index_wrong w A c os h hl ho
  clear h ho
  go_enter Tryd.func47, Tryd.ntmps47
  go_wp2_with fail
  refine hi.mono ?_
  rintro e w1 ⟨r, rfl, hr, hk⟩
  have HR := hide hr
  clear hr
  go_wp2_with fail
  go_ret
  exact ⟨by rw [← HR.out]; rfl, hk⟩

end Go.Proofs.YtcnehacblodiaaaDoor
