/- Strings sorted, in pieces of memory. No condition. -/
import Derived.Test.YtecpfnobnpddaaaDoorSepP
import Derived.Shelf.SortM.Plain
import Derived.Shelf.SortM.SortNone
import Derived.Ground.SlgmProg
import Derived.Test.YtecpfnobnpddaaaDoorLaysT
set_option linter.unusedVariables false
set_option linter.unusedSimpArgs false
namespace Go.Proofs.YtecpfnobnpddaaaDoor
open Go.RowKit Go.Shelf

/-- texts, in order -/
def sortB (l : List (List UInt8)) : List (List UInt8) := l.mergeSort fun x y => decide (x ≤ y)
theorem sortB_perm (l : List (List UInt8)) : (sortB l).Perm l := List.mergeSort_perm _ _
theorem sortB_length (l : List (List UInt8)) : (sortB l).length = l.length := (sortB_perm l).length_eq

theorem keeps_putRow (w : World) (n b : Nat) (d : Array (List UInt8)) (os : Array Obj) : Keeps (fun i => i = b) w (Go.Sort.grow (Go.Sort.putRow encStr (Go.Sort.ahead w n) b 0 d) os) := by
  refine ⟨rfl, rfl, rfl, ?_, fun i hi hne => ?_⟩
  · simp [Go.Sort.grow, Go.Sort.putRow, Go.Sort.mapBlock, Go.Sort.ahead]
  · have : ¬ b = i := fun e => hne e.symm
    simp [Go.Sort.grow, Go.Sort.putRow, Go.Sort.mapBlock, Go.Sort.ahead, Array.getElem?_append, Array.getElem?_modify, Array.getElem_modify, hi, this]

theorem sort_strs {g w : World} {L : List Asn} {v : Value} {xs : List (List UInt8)} (S : Sat g w (rowA 9 1 v xs.length (Ss xs) :: L)) (hl : xs.length ≤ 1000000) :
    Calls Tryd.prog 89 #[v] w fun e w' => e = .returned (.tuple #[]) ∧ Sat g w' (rowA 9 1 v xs.length (Ss (sortB xs)) :: L) := by
  obtain ⟨hlen, hr⟩ := S.row
  rcases hr with ⟨rfl, h0⟩ | ⟨b, cap, cur, rfl, _, hb, r1, r2, r3, r4⟩
  · obtain rfl : xs = [] := List.length_eq_zero_iff.1 h0
    refine (AnyM.slices_Sort_string_none Tryd.sortT none 0 w).mono ?_
    rintro e w' ⟨rfl, rfl⟩
    exact ⟨rfl, by simpa [sortB] using S⟩
  · have hcell : ∀ j, (h : j < xs.length) → cur[j]? = some (encStr xs[j]) := by
      intro j hj
      have h1 := congrArg (·[j]?) r4
      simp only [Nat.mul_one, List.getElem?_take, hj, if_true, Ss, List.getElem?_map, List.getElem?_eq_getElem hj, Option.map_some] at h1
      have h2 : cur[j]? = some (Value.string (Go.Proofs.YtecpfnobnpddaaaDoor.S xs[j])) := by simpa using h1
      exact h2
    have hH : Go.Sort.Holds encStr w b 0 xs.toArray := by
      intro j hj
      have hj2 : j < xs.length := by simpa using hj
      refine ⟨?_, ?_⟩
      · rw [Nat.zero_add, cell_of_row w b j cur _ (0, 0) hb, hcell j hj2, getElem!_pos _ j hj]
        rfl
      · simp [World.frozen?, hb]
    refine (AnyM.slices_Sort_string Tryd.sortT b 0 cap xs w hH (heap_lt hb) (by omega)).mono ?_
    rintro e w' ⟨rfl, n, os, rfl⟩
    refine ⟨rfl, ?_⟩
    have hk := keeps_putRow w n b (sortB xs).toArray os
    have hsz : (sortB xs).length = xs.length := sortB_length xs
    have hb' : (Go.Sort.grow (Go.Sort.putRow encStr (Go.Sort.ahead w n) b 0 (sortB xs).toArray) os).heap[b]? = some (.cells (Go.Sort.putCells encStr 0 (sortB xs).toArray cur) 9 (0, 0)) := by
      have hlt := heap_lt hb
      have hb2 : w.heap[b] = .cells cur 9 (0, 0) := by
        rw [Array.getElem?_eq_getElem hlt] at hb
        exact Option.some.inj hb
      simp [Go.Sort.grow, Go.Sort.putRow, Go.Sort.mapBlock, Go.Sort.ahead, Array.getElem?_append, Array.getElem?_modify, Array.getElem_modify, hlt, hb2, Go.Sort.onCells]
    refine S.grew (v' := .slice (some ⟨b, 0, none⟩) xs.length cap) ⟨by simp [Ss, hsz], .inr ⟨b, cap, _, rfl, Nat.zero_le _, hb', r1, r2, by simpa [Go.Sort.putCells] using r3, ?_⟩⟩ ⟨hk.mono fun i _ e => by rw [e]; rfl, fun g hg => .inl hg⟩
    apply List.ext_getElem?
    intro k
    simp only [Nat.mul_one, List.getElem?_take, Ss, List.getElem?_map, Go.Sort.putCells, Array.getElem?_toList, Array.getElem?_mapIdx]
    by_cases hk2 : k < xs.length
    · rw [if_pos hk2, hcell k hk2]
      have h4 : k < (sortB xs).length := by omega
      have h5 : ((sortB xs).toArray)[k]! = (sortB xs)[k] := getElem!_pos (sortB xs).toArray k (by simpa using h4)
      rw [List.getElem?_eq_getElem h4]
      simp [h4, h5]
      rfl
    · rw [if_neg hk2, List.getElem?_eq_none (by omega)]
      rfl
end Go.Proofs.YtecpfnobnpddaaaDoor
