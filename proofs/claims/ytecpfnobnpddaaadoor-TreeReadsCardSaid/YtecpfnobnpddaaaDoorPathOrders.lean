/- The law PathOrders, walked. No condition. -/
import Derived.Test.YtecpfnobnpddaaaDoorMade
set_option linter.unusedVariables false
namespace Go.Proofs.YtecpfnobnpddaaaDoor
open Go.RowKit

theorem madeP_ne (ns : List Int) : madeP ns ≠ [] := by
  unfold madeP
  split
  · simp
  · assumption
theorem below_spec {s up : List UInt8} : belowF s up = true ↔ s ≠ up ∧ ((up = [47] ∧ s ≠ []) ∨ (up ++ [47]) <+: s) := by
  simp [belowF]
theorem below_trans {x y z : List UInt8} (hz : z ≠ []) (h1 : belowF x y = true) (h2 : belowF y z = true) : belowF x z = true := by
  rw [below_spec] at *
  obtain ⟨n1, h1⟩ := h1
  obtain ⟨n2, h2⟩ := h2
  have lz : 0 < z.length := List.length_pos_iff.2 hz
  rcases h1 with ⟨rfl, hx⟩ | h1
  · rcases h2 with ⟨rfl, _⟩ | h2
    · exact absurd rfl n2
    · have := h2.length_le
      simp at this
      exact absurd this hz
  · have l1 := h1.length_le
    simp at l1
    rcases h2 with ⟨rfl, hy⟩ | h2
    · have ly : 0 < y.length := List.length_pos_iff.2 hy
      refine ⟨?_, .inl ⟨rfl, ?_⟩⟩
      · rintro rfl; simp at l1; exact hy l1
      · rintro rfl; simp at l1
    · have l2 := h2.length_le
      simp at l2
      refine ⟨?_, .inr (h2.trans ((List.prefix_append y [47]).trans h1))⟩
      rintro rfl
      omega
theorem below_asym {x y : List UInt8} (hx : x ≠ []) (hy : y ≠ []) (h1 : belowF x y = true) : belowF y x = false := by
  rw [Bool.eq_false_iff]
  intro h2
  rw [below_spec] at *
  obtain ⟨n1, h1⟩ := h1
  obtain ⟨n2, h2⟩ := h2
  have lx : 0 < x.length := List.length_pos_iff.2 hx
  have ly : 0 < y.length := List.length_pos_iff.2 hy
  rcases h1 with ⟨rfl, _⟩ | h1
  · rcases h2 with ⟨rfl, _⟩ | h2
    · exact absurd rfl n2
    · have := h2.length_le
      simp at this
      exact absurd this hx
  · have l1 := h1.length_le
    simp at l1
    rcases h2 with ⟨rfl, _⟩ | h2
    · simp at l1; exact absurd l1 hy
    · have l2 := h2.length_le
      simp at l2
      omega
theorem below_root {x : List UInt8} (hx : x ≠ []) : belowF x [47] = decide (x ≠ [47]) := by
  unfold belowF
  by_cases h : x = [47]
  · simp [h]
  · simp [h, hx]
end Go.Proofs.YtecpfnobnpddaaaDoor
