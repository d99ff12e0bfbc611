/- The statements' own helpers over the package path: paths of some parts, the document's example. No condition. -/
import Derived.Test.YtecpfnobnpddaaaDoorPath
set_option linter.unusedVariables false
namespace Go.Proofs.YtecpfnobnpddaaaDoor
open Go.RowKit

def pid (n : Int) : Nat := (n % 18446744073709551616 % 5).toNat
def nameP : Nat → List UInt8
  | 0 => [97]
  | 1 => [98]
  | 2 => [99]
  | 3 => [110, 49]
  | _ => [120, 45, 121]
def bodyP (ns : List Int) : List UInt8 := ns.flatMap fun n => 47 :: nameP (pid n)
def madeP (ns : List Int) : List UInt8 := if bodyP ns = [] then [47] else bodyP ns
theorem pid_lt (n : Int) : pid n < 5 := by unfold pid; omega
theorem pid_at (n : Int) : (IntKind.u64.wrap n).tmod 5 = pid n := by
  have h : IntKind.u64.wrap n = n % 18446744073709551616 := by
    simp [IntKind.wrap, IntKind.signed, IntKind.bits]
  rw [h, Int.tmod_eq_emod_of_nonneg (by omega)]
  unfold pid
  omega
theorem nameP_le (k : Nat) : (nameP k).length ≤ 3 := by
  unfold nameP
  split <;> simp
theorem bodyP_le (ns : List Int) : (bodyP ns).length ≤ 4 * ns.length := by
  unfold bodyP
  induction ns with
  | nil => simp
  | cons a r ih =>
    have := nameP_le (pid a)
    simp only [List.flatMap_cons, List.length_append, List.length_cons] at ih ⊢
    omega
theorem madeP_le (ns : List Int) : (madeP ns).length ≤ 4 * ns.length + 1 := by
  have := bodyP_le ns
  unfold madeP
  split
  · simp
  · omega
theorem bodyP_take (ns : List Int) (k : Nat) (x : Int) (h : ns[k]? = some x) : bodyP (ns.take (k + 1)) = bodyP (ns.take k) ++ 47 :: nameP (pid x) := by
  obtain ⟨hk, rfl⟩ := List.getElem?_eq_some_iff.1 h
  unfold bodyP
  rw [List.take_succ_eq_append_getElem hk, List.flatMap_append]
  simp
theorem bodyP_eq (ns : List Int) : bodyP ns = [] ↔ ns = [] := by
  cases ns with
  | nil => simp [bodyP]
  | cons a r => simp [bodyP]

theorem app47 (l m : List UInt8) : S (l ++ 47 :: m) = S l ++ S [47] ++ S m := by
  rw [S_append, S_append]
  simp

set_option maxRecDepth 100000 in
set_option maxHeartbeats 2000000 in
theorem made_path (w : World) (A : Option Addr) (ns : List Int) (c : Nat) (hsrc : Src w 1 A ns.length (Is ns)) (hn : ns.length ≤ 1000000) :
    Calls Tryd.prog 28 #[.slice A ns.length c] w fun e w' => e = .returned (.string (S (madeP ns))) ∧ Keeps (fun _ => False) w w' := by
  go_enter Tryd.func28, Tryd.ntmps28
  go_wp2_with fail
  go_loopw [3, 8] (fun s i wr => ∃ k : Nat, k ≤ ns.length ∧ i = .int .i64 k ∧ s = .string (S (bodyP (ns.take k))) ∧ Keeps (fun _ => False) w wr) (fun _ i _ => ns.length - (intOf i).toNat)
  case atStart => exact ⟨0, by omega, rfl, rfl, Keeps.refl _ _⟩
  case round =>
    obtain ⟨k, hk, rfl, rfl, hK⟩ := hrel
    have hle := bodyP_le (ns.take k)
    have hle2 : (ns.take k).length ≤ k := List.length_take_le _ _
    by_cases hlt : k < ns.length
    · obtain ⟨ad, u, rfl, hu, hc⟩ := (hsrc.keep hK (fun _ _ h => h)).at_ hlt
      simp only [Is, List.getElem?_map, Option.map_eq_some_iff] at hu
      obtain ⟨x, hx, rfl⟩ := hu
      have HX := hide hx
      have HT := hide (bodyP_take ns k x hx)
      clear hx
      have hp := pid_at x
      have hlt5 := pid_lt x
      generalize bodyP (ns.take k) = l at *
      have hl : l.length ≤ 5000000 := by omega
      generalize pid x = q at *
      clear hle hle2
      have hq : q = 0 ∨ q = 1 ∨ q = 2 ∨ q = 3 ∨ q = 4 := by omega
      have HK := hide hK
      clear hK
      rcases hq with rfl | rfl | rfl | rfl | rfl
      all_goals
        clear hlt5
        go_wp2_with fail
        go_roundw
        case rel =>
          refine ⟨k + 1, by omega, by go_num, ?_, HK.out.alloc _⟩
          rw [HT.out]
          refine congrArg Value.string ?_
          rw [app47]
          rfl
        case measure => simp [intOf]; omega
    · obtain rfl : k = ns.length := by omega
      rw [List.take_length]
      by_cases h0 : bodyP ns = []
      · have e : madeP ns = [47] := by unfold madeP; rw [if_pos h0]
        have E := hide e
        rw [h0]
        clear e h0
        go_wp2_with fail
        go_ret
        exact ⟨by rw [E.out]; rfl, hK⟩
      · have e : madeP ns = bodyP ns := by unfold madeP; rw [if_neg h0]
        have h0b : (bodyP ns).isEmpty = false := by simpa using h0
        have E := hide e
        clear e h0
        go_wp2_with fail
        go_ret
        exact ⟨by rw [E.out]; rfl, hK⟩

end Go.Proofs.YtecpfnobnpddaaaDoor
