/- The statements of layer 10 over lists of acts: 'few', and SessApart. No condition. -/
import Derived.Test.YtcnehacblodiaaaSessLaw
set_option linter.unusedVariables false
namespace Go.Proofs.Ytcnehacblodiaaa
open Go.RowKit

/-- an act: its kind, session, request, answer -/
abbrev Act := Int × Int × Int × List UInt8
def actC (a : Act) : List Value := [.int .i64 a.1, .int .i64 a.2.1, .int .i64 a.2.2.1, .string (S a.2.2.2)]
abbrev actV (a : Act) : Value := .agg #[.int .i64 a.1, .int .i64 a.2.1, .int .i64 a.2.2.1, .string (S a.2.2.2)]
theorem flat4 (xs : List Act) (k : Nat) (a : Act) (h : xs[k]? = some a) (j : Nat) (u : Value) (hj : (actC a)[j]? = some u) : (xs.flatMap actC)[k * 4 + j]? = some u := by
  induction xs generalizing k with
  | nil => simp at h
  | cons b r ih =>
    cases k with
    | zero =>
      simp only [List.getElem?_cons_zero, Option.some.injEq] at h
      subst h
      rw [List.flatMap_cons, List.getElem?_append_left (by have := (List.getElem?_eq_some_iff.1 hj).1; simpa using this)]
      simpa using hj
    | succ k =>
      simp only [List.getElem?_cons_succ] at h
      have := ih k h
      rw [List.flatMap_cons, List.getElem?_append_right (by simp [actC]; omega)]
      rw [← this]
      congr 1
      simp [actC]
      omega
theorem acts_at {w : World} {A : Option Addr} {xs : List Act} (h : Src w 4 A xs.length (xs.flatMap actC)) {k : Nat} (hk : k < xs.length) :
    ∃ ad a, A = some ad ∧ xs[k]? = some a ∧ w.cell? (ad.add (k * 4)) = some (.int .i64 a.1) ∧ w.cell? ⟨(ad.add (k * 4)).block, (ad.add (k * 4)).off + 1, none⟩ = some (.int .i64 a.2.1) ∧ w.cell? ⟨(ad.add (k * 4)).block, (ad.add (k * 4)).off + 2, none⟩ = some (.int .i64 a.2.2.1) ∧ w.cell? ⟨(ad.add (k * 4)).block, (ad.add (k * 4)).off + 3, none⟩ = some (.string (S a.2.2.2)) := by
  obtain ⟨ad, e, hc⟩ := h.2 (by omega)
  have ha := List.getElem?_eq_getElem hk
  refine ⟨ad, xs[k], e, ha, ?_, ?_, ?_, ?_⟩
  · exact hc _ _ (flat4 xs k _ ha 0 _ rfl)
  · rw [← add_succ, add_add]; exact hc _ _ (flat4 xs k _ ha 1 _ rfl)
  · rw [← add_succ, add_add]; exact hc _ _ (flat4 xs k _ ha 2 _ rfl)
  · rw [← add_succ, add_add]; exact hc _ _ (flat4 xs k _ ha 3 _ rfl)

def fewF (xs : List Act) : Bool := xs.all (fun a => decide (a.2.2.2.length ≤ 500)) && decide (xs.length ≤ 60)

theorem few_acts (W w : World) (A : Option Addr) (xs : List Act) (c : Nat) (h0 : Src W 4 A xs.length (xs.flatMap actC)) (hk : Keeps (fun k => W.heap.size ≤ k) W w) (hl : xs.length ≤ 9223372036854775807) (hg : ∀ a ∈ xs, a.2.2.2.length ≤ 9223372036854775807) :
    Calls Try.prog 13 #[.slice A xs.length c] w fun e w' => e = .returned (.bool (fewF xs)) ∧ Keeps (fun _ => False) w w' := by
  have h1 := h0.keepB (by decide) hk (fun k hk h => by omega)
  clear h0 hk
  go_enter Try.func13, Try.ntmps13
  go_wp2_with fail
  go_loopw [7] (fun i wr => ∃ k : Nat, k ≤ xs.length ∧ i = .int .i64 k ∧ (∀ a ∈ xs.take k, a.2.2.2.length ≤ 500) ∧ Keeps (fun _ => False) w wr) (fun i _ => xs.length - (intOf i).toNat)
  case atStart => exact ⟨0, by omega, rfl, by simp, Keeps.refl _ _⟩
  case round =>
    obtain ⟨k, hk, rfl, hall, hK⟩ := hrel
    have HA := hide hall
    clear hall
    by_cases hlt : k < xs.length
    · obtain ⟨ad, a, rfl, ha, c0, c1, c2, c3⟩ := acts_at (h1.keep hK (fun _ _ h => h)) hlt
      have HX := hide ha
      clear ha
      go_wp2_with fail
      · rename_i hb
        have e : fewF xs = false := by
          unfold fewF
          rw [Bool.and_eq_false_iff]
          left
          rw [List.all_eq_false]
          exact ⟨a, List.mem_of_getElem? HX.out, by simp; omega⟩
        go_ret
        exact ⟨by rw [e]; rfl, hK.alloc _⟩
      · go_roundw
        case rel =>
          refine ⟨k + 1, by omega, by go_num, ?_, hK.alloc _⟩
          obtain ⟨hk', rfl⟩ := List.getElem?_eq_some_iff.1 HX.out
          rw [List.take_succ_eq_append_getElem hk']
          intro b hb
          rcases List.mem_append.1 hb with hb | hb
          · exact HA.out b hb
          · simp at hb; subst hb; omega
        case measure => simp [intOf]; omega
    · obtain rfl : k = xs.length := by omega
      have e : fewF xs = decide (xs.length ≤ 60) := by
        unfold fewF
        have : xs.all (fun a => decide (a.2.2.2.length ≤ 500)) = true := by
          rw [List.all_eq_true]
          intro b hb
          have := HA.out b (by rw [List.take_length]; exact hb)
          simpa using this
        rw [this]
        rfl
      go_wp2_with fail
      go_ret
      refine ⟨?_, hK⟩
      rw [e]
      congr 2
      simp
      omega

end Go.Proofs.Ytcnehacblodiaaa
