/- Contracts of the package sess in pieces of memory: a table read from bytes. No condition. -/
import Derived.Test.YtcnehacblodiaaaSessT
set_option linter.unusedVariables false
namespace Go.Proofs.Ytcnehacblodiaaa
open Go.RowKit

/-! ### plain -/
def entR (x : RS) : (Int × Ses) × RS := (((rn x 281474976710655).1, ((rn (rn x 281474976710655).2 281474976710655).1, (rt (rn (rn x 281474976710655).2 281474976710655).2 400).1)), (rt (rn (rn x 281474976710655).2 281474976710655).2 400).2)
def badE (last : Int) (p : Int × Ses) : Bool := decide (p.1 ≤ last) || (decide (p.2.1 = 0) && decide (p.2.2 ≠ []))
def lastK (m : Tab) : Int := match m.getLast? with
  | some p => p.1
  | none => 0
def stR (x : RS) : Nat → Option (Tab × RS)
  | 0 => some ([], x)
  | k + 1 => match stR x k with
    | none => none
    | some (m, y) => if badE (lastK m) (entR y).1 = true then none else some (m ++ [(entR y).1], (entR y).2)
def readT (x : RS) : Tab × RS := match stR (rn x 16).2 (rn x 16).1.toNat with
  | none => ([], fl)
  | some (m, y) => if y.2 = true then ([], y) else (m, y)
structure AscT (m : Tab) : Prop where
  asc : (keys m).Pairwise (· < ·)
  lo : ∀ k ∈ keys m, 1 ≤ k ∧ k ≤ lastK m ∧ k ≤ 281474976710655
theorem lastK_snoc (m : Tab) (p : Int × Ses) : lastK (m ++ [p]) = p.1 := by simp [lastK]
theorem lastK_nil : lastK [] = 0 := rfl
theorem AscT.nil : AscT [] := ⟨by simp [keys], by simp [keys]⟩
theorem AscT.last {m : Tab} (h : AscT m) : 0 ≤ lastK m := by
  rcases List.eq_nil_or_concat m with rfl | ⟨r, x, rfl⟩
  · simp [lastK]
  · rw [List.concat_eq_append, lastK_snoc]
    have := h.lo x.1 (by simp [keys])
    omega
theorem AscT.snoc {m : Tab} (h : AscT m) (p : Int × Ses) (h1 : lastK m < p.1) (h2 : p.1 ≤ 281474976710655) : AscT (m ++ [p]) := by
  have h0 := h.last
  refine ⟨?_, ?_⟩
  · simp only [keys, List.map_append, List.map_cons, List.map_nil]
    rw [List.pairwise_append]
    refine ⟨h.asc, by simp, fun a ha b hb => ?_⟩
    simp only [List.mem_singleton] at hb
    subst hb
    have := h.lo a ha
    omega
  · intro k hk
    rw [lastK_snoc]
    simp only [keys, List.map_append, List.map_cons, List.map_nil, List.mem_append, List.mem_singleton] at hk
    rcases hk with hk | rfl
    · have := h.lo k hk; omega
    · omega
theorem AscT.put {m : Tab} (h : AscT m) (p : Int × Ses) (h1 : lastK m < p.1) : mput m p.1 p.2 = m ++ [p] := by
  have hn : p.1 ∉ keys m := fun hm => by have := h.lo _ hm; omega
  unfold mput
  rw [mget_none.2 hn]
  rfl
theorem AscT.ok {m : Tab} (h : AscT m) : tabOk m := fun k hk => by have := h.lo k hk; omega
theorem stR_none (x : RS) (j n : Nat) (h : stR x j = none) (hn : j ≤ n) : stR x n = none := by
  induction n with
  | zero => obtain rfl : j = 0 := by omega
            exact h
  | succ n ih =>
    by_cases hj : j ≤ n
    · simp only [stR, ih hj]
    · obtain rfl : j = n + 1 := by omega
      exact h
theorem stR_length (x : RS) (k : Nat) (m : Tab) (y : RS) (h : stR x k = some (m, y)) : m.length = k := by
  induction k generalizing m y with
  | zero => simp [stR] at h; simp [← h.1]
  | succ k ih =>
    simp only [stR] at h
    cases hs : stR x k with
    | none => rw [hs] at h; cases h
    | some q =>
      obtain ⟨m1, y1⟩ := q
      rw [hs] at h
      simp only at h
      split at h
      · cases h
      · simp only [Option.some.injEq, Prod.mk.injEq] at h
        rw [← h.1]
        simp [ih m1 y1 hs]
theorem stR_asc (x : RS) (k : Nat) (m : Tab) (y : RS) (h : stR x k = some (m, y)) : AscT m := by
  induction k generalizing m y with
  | zero => simp [stR] at h; rw [h.1]; exact AscT.nil
  | succ k ih =>
    simp only [stR] at h
    cases hs : stR x k with
    | none => rw [hs] at h; cases h
    | some q =>
      obtain ⟨m1, y1⟩ := q
      rw [hs] at h
      simp only at h
      split at h
      · cases h
      · rename_i hb
        simp only [Option.some.injEq, Prod.mk.injEq] at h
        rw [← h.1]
        refine (ih m1 y1 hs).snoc _ ?_ (rn_hi _ _ (by decide))
        simp [badE] at hb
        omega
theorem entR_took (x : RS) : Took x (entB (entR x).1) (entR x).2 := by
  have h1 := rn_took x 281474976710655
  have h2 := rn_took (rn x 281474976710655).2 281474976710655
  have h3 := rt_took (rn (rn x 281474976710655).2 281474976710655).2 400
  have h := h1.trans (h2.trans h3)
  have e : entB (entR x).1 = num6 (rn x 281474976710655).1 ++ (num6 (rn (rn x 281474976710655).2 281474976710655).1 ++ txt (rt (rn (rn x 281474976710655).2 281474976710655).2 400).1) := by
    simp [entB, entR, nums, txts]
  rw [e]
  exact h
theorem stR_took (x : RS) (k : Nat) (m : Tab) (y : RS) (h : stR x k = some (m, y)) : Took x (m.flatMap entB) y := by
  induction k generalizing m y with
  | zero => simp [stR] at h; rw [h.1, ← h.2]; exact Took.nil _
  | succ k ih =>
    simp only [stR] at h
    cases hs : stR x k with
    | none => rw [hs] at h; cases h
    | some q =>
      obtain ⟨m1, y1⟩ := q
      rw [hs] at h
      simp only at h
      split at h
      · cases h
      · simp only [Option.some.injEq, Prod.mk.injEq] at h
        rw [← h.1, ← h.2]
        have := (ih m1 y1 hs).trans (entR_took y1)
        simpa using this
theorem sortI_asc (l : List Int) (h : l.Pairwise (· < ·)) : sortI l = l := by
  refine List.Perm.eq_of_pairwise (le := fun a b => a ≤ b) (fun a b _ _ h1 h2 => by omega) ?_ (h.imp (fun h => by omega)) (List.mergeSort_perm l _)
  have := List.pairwise_mergeSort (le := fun x y : Int => decide (x ≤ y)) (fun a b c h1 h2 => by simp only [decide_eq_true_eq] at *; omega) (fun a b => by simp only [Bool.or_eq_true, decide_eq_true_eq]; omega) l
  exact this.imp (fun h => by simpa using h)
theorem AscT.norm {m : Tab} (h : AscT m) : normT m = m := by
  have hn : (keys m).Nodup := h.asc.imp (fun h => by omega)
  unfold normT
  rw [sortI_asc _ h.asc]
  simp only [keys, List.map_map]
  conv => rhs; rw [← List.map_id m]
  apply List.map_congr_left
  intro p hp
  simp [mget_some hn (show (p.1, p.2) ∈ m from hp)]
/-- bytes that were a table, just so -/
theorem readT_lay (s : List UInt8) (m : Tab) (h : readT (s, false) = (m, ([], false))) : layB m = s := by
  unfold readT at h
  have h0 := rn_took (s, false) 16
  have hl := rn_lo (s, false) 16
  generalize rn (s, false) 16 = a at *
  cases hs : stR a.2 a.1.toNat with
  | none => rw [hs] at h; simp [fl] at h
  | some q =>
    obtain ⟨m1, y⟩ := q
    rw [hs] at h
    simp only at h
    split at h
    · rename_i hy; simp only [Prod.mk.injEq] at h; rw [h.2] at hy; cases hy
    · simp only [Prod.mk.injEq] at h
      obtain ⟨rfl, rfl⟩ := h
      have h1 := h0.trans (stR_took _ _ _ _ hs)
      have h2 := (h1 rfl).2
      have h3 := stR_length _ _ _ _ hs
      simp only [List.append_nil] at h2
      have e : ((m1.length : Nat) : Int) = a.1 := by omega
      rw [layB, (stR_asc _ _ _ _ hs).norm, e, h2]
      simp [nums]
theorem readT_asc (x : RS) : AscT (readT x).1 ∧ (readT x).1.length ≤ 16 := by
  unfold readT
  have hh := rn_hi x 16 (by decide)
  have hl := rn_lo x 16
  generalize rn x 16 = a at *
  cases hs : stR a.2 a.1.toNat with
  | none => exact ⟨AscT.nil, by simp⟩
  | some q =>
    obtain ⟨m1, y⟩ := q
    simp only
    split
    · exact ⟨AscT.nil, by simp⟩
    · refine ⟨stR_asc _ _ _ _ hs, ?_⟩
      have := stR_length _ _ _ _ hs
      simp only
      omega
theorem readT_fail (x : RS) (h : (readT x).2.2 = true) : (readT x).1 = [] := by
  unfold readT at h ⊢
  generalize rn x 16 = a at *
  cases hs : stR a.2 a.1.toNat with
  | none => rfl
  | some q =>
    obtain ⟨m1, y⟩ := q
    rw [hs] at h
    simp only at h ⊢
    split
    · rfl
    · rename_i hy
      rw [if_neg hy] at h
      exact absurd h hy

end Go.Proofs.Ytcnehacblodiaaa
