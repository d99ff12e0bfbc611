/- Contracts of the package tree: Read. Plain part: a tree read from bytes. No condition. -/
import Derived.Test.YtanlobdidjednaaGreatDoorTreeM
import Derived.Test.YtanlobdidjednaaGreatDoorTook
set_option linter.unusedVariables false
set_option linter.unusedSimpArgs false
namespace Go.Proofs.YtanlobdidjednaaGreatDoor
open Go.RowKit

def nodB (p : List UInt8 × NodeT) : List UInt8 := txts [p.1, p.2.data] ++ nums [p.2.version, p.2.below, p.2.owner, p.2.made, p.2.set, p.2.serial]
def nodR (x : RS) : (List UInt8 × NodeT) × RS :=
  let a := rt x 60
  let b := rt a.2 60
  let c := rn b.2 281474976710655
  let d := rn c.2 281474976710655
  let e := rn d.2 281474976710655
  let f := rn e.2 281474976710655
  let g := rn f.2 281474976710655
  let h := rn g.2 281474976710655
  ((a.1, ⟨b.1, c.1, d.1, e.1, f.1, g.1, h.1⟩), h.2)
def lastP (m : TreeT) : List UInt8 := match m.getLast? with
  | some p => p.1
  | none => []
def badN (m : TreeT) (s : List UInt8) : Bool := decide (checkF s ≠ 0) || (Op.bytesLess s (lastP m) || s == lastP m) || ((mget m (upF s).1).isNone && decide (s ≠ [47]))
def treR (x : RS) : Nat → Option (TreeT × RS)
  | 0 => some ([], x)
  | k + 1 => match treR x k with
    | none => none
    | some (m, y) => if badN m (nodR y).1.1 = true then none else some (m ++ [(nodR y).1], (nodR y).2)
def rootT : TreeT := [([47], zN)]
def readTr (x : RS) : TreeT × RS := match treR (rn x 60).2 (rn x 60).1.toNat with
  | none => (rootT, fl)
  | some (m, y) => if y.2 = true ∨ m = [] then (rootT, fl) else (m, y)

/-! ### in order -/
theorem less_irr (a : List UInt8) : Op.bytesLess a a = false := by rw [bytesLess_eq]; simp
theorem less_tr {a b c : List UInt8} (h1 : Op.bytesLess a b = true) (h2 : Op.bytesLess b c = true) : Op.bytesLess a c = true := by
  rw [bytesLess_eq] at *
  simp only [decide_eq_true_eq] at *
  exact List.lt_trans h1 h2
theorem less_not {a b : List UInt8} (h : (Op.bytesLess a b || a == b) = false) : Op.bytesLess b a = true := by
  simp only [Bool.or_eq_false_iff, beq_eq_false_iff_ne, ne_eq] at h
  obtain ⟨h1, h2⟩ := h
  rw [bytesLess_eq] at *
  simp only [decide_eq_false_iff_not, decide_eq_true_eq] at *
  apply Classical.byContradiction
  intro h3
  exact h2 (List.le_antisymm (List.not_lt.1 h3) (List.not_lt.1 h1))
theorem less_nil (a : List UInt8) : Op.bytesLess a [] = false := by
  rw [bytesLess_eq]
  simp
/-- a tree that is written in order, each node behind the one above it -/
structure AscN (m : TreeT) : Prop where
  asc : (keys m).Pairwise fun a b => Op.bytesLess a b = true
  last : ∀ k ∈ keys m, k = lastP m ∨ Op.bytesLess k (lastP m) = true
  ok : ∀ k ∈ keys m, checkF k = 0 ∧ (k = [47] ∨ (upF k).1 ∈ keys m)
theorem lastP_snoc (m : TreeT) (p : List UInt8 × NodeT) : lastP (m ++ [p]) = p.1 := by simp [lastP]
theorem AscN.nil : AscN [] := ⟨by simp, by simp, by simp⟩
theorem AscN.nodup {m : TreeT} (h : AscN m) : (keys m).Nodup := h.asc.imp fun {a b} h e => by subst e; rw [less_irr] at h; cases h
theorem badN_out {m : TreeT} {s : List UInt8} (h : ¬ badN m s = true) : checkF s = 0 ∧ Op.bytesLess (lastP m) s = true ∧ (s = [47] ∨ (upF s).1 ∈ keys m) := by
  simp only [badN, Bool.or_eq_true, not_or, Bool.and_eq_true, not_and, decide_eq_true_eq, Decidable.not_not] at h
  obtain ⟨⟨h1, h2⟩, h3⟩ := h
  refine ⟨h1, less_not ?_, ?_⟩
  · rw [Bool.eq_false_iff]
    intro hc
    rw [Bool.or_eq_true] at hc
    rcases hc with hc | hc
    · exact h2.1 hc
    · exact h2.2 hc
  · cases hg : mget m (upF s).1 with
    | none => exact .inl (h3 (by rw [hg]; rfl))
    | some n => exact .inr (mem_keys_mget.2 ⟨n, hg⟩)
theorem AscN.fresh {m : TreeT} (h : AscN m) {s : List UInt8} (h2 : Op.bytesLess (lastP m) s = true) : s ∉ keys m := by
  intro hm
  rcases h.last s hm with e | e
  · rw [← e, less_irr] at h2; cases h2
  · have := less_tr e h2
    rw [less_irr] at this; cases this
theorem AscN.snoc {m : TreeT} (h : AscN m) (p : List UInt8 × NodeT) (hb : ¬ badN m p.1 = true) : AscN (m ++ [p]) := by
  obtain ⟨h1, h2, h3⟩ := badN_out hb
  have hk : keys (m ++ [p]) = keys m ++ [p.1] := by simp [keys]
  refine ⟨?_, ?_, ?_⟩
  · rw [hk, List.pairwise_append]
    refine ⟨h.asc, by simp, fun a ha b hb => ?_⟩
    simp only [List.mem_singleton] at hb
    subst hb
    rcases h.last a ha with e | e
    · rw [e]; exact h2
    · exact less_tr e h2
  · intro k hk'
    rw [lastP_snoc]
    rw [hk, List.mem_append, List.mem_singleton] at hk'
    rcases hk' with hk' | rfl
    · right
      rcases h.last k hk' with e | e
      · rw [e]; exact h2
      · exact less_tr e h2
    · exact .inl rfl
  · intro k hk'
    rw [hk, List.mem_append, List.mem_singleton] at hk'
    rcases hk' with hk' | rfl
    · obtain ⟨q1, q2⟩ := h.ok k hk'
      refine ⟨q1, ?_⟩
      rcases q2 with q2 | q2
      · exact .inl q2
      · exact .inr (by rw [hk]; exact List.mem_append_left _ q2)
    · refine ⟨h1, ?_⟩
      rcases h3 with q2 | q2
      · exact .inl q2
      · exact .inr (by rw [hk]; exact List.mem_append_left _ q2)
theorem AscN.put {m : TreeT} (h : AscN m) (p : List UInt8 × NodeT) (hb : ¬ badN m p.1 = true) : mput m p.1 p.2 = m ++ [p] :=
  mput_new (mget_none.2 (h.fresh (badN_out hb).2.1))
theorem treR_none (x : RS) (j n : Nat) (h : treR x j = none) (hn : j ≤ n) : treR x n = none := by
  induction n with
  | zero => obtain rfl : j = 0 := by omega
            exact h
  | succ n ih =>
    by_cases hj : j ≤ n
    · simp only [treR, ih hj]
    · obtain rfl : j = n + 1 := by omega
      exact h
theorem treR_len (x : RS) (k : Nat) (m : TreeT) (y : RS) (h : treR x k = some (m, y)) : m.length = k ∧ AscN m := by
  induction k generalizing m y with
  | zero => simp [treR] at h; obtain ⟨rfl, rfl⟩ := h; exact ⟨rfl, AscN.nil⟩
  | succ k ih =>
    simp only [treR] at h
    cases hs : treR x k with
    | none => rw [hs] at h; cases h
    | some q =>
      obtain ⟨m1, y1⟩ := q
      rw [hs] at h
      simp only at h
      split at h
      · cases h
      · rename_i hb
        simp only [Option.some.injEq, Prod.mk.injEq] at h
        obtain ⟨e1, e2⟩ := ih m1 y1 hs
        rw [← h.1]
        exact ⟨by simp [e1], e2.snoc _ hb⟩
theorem nodR_took (x : RS) : Took x (nodB (nodR x).1) (nodR x).2 := by
  have h1 := rt_took x 60
  have h2 := rt_took (rt x 60).2 60
  have h3 := rn_took (rt (rt x 60).2 60).2 281474976710655
  have h4 := rn_took (rn (rt (rt x 60).2 60).2 281474976710655).2 281474976710655
  have h5 := rn_took (rn (rn (rt (rt x 60).2 60).2 281474976710655).2 281474976710655).2 281474976710655
  have h6 := rn_took (rn (rn (rn (rt (rt x 60).2 60).2 281474976710655).2 281474976710655).2 281474976710655).2 281474976710655
  have h7 := rn_took (rn (rn (rn (rn (rt (rt x 60).2 60).2 281474976710655).2 281474976710655).2 281474976710655).2 281474976710655).2 281474976710655
  have h8 := rn_took (rn (rn (rn (rn (rn (rt (rt x 60).2 60).2 281474976710655).2 281474976710655).2 281474976710655).2 281474976710655).2 281474976710655).2 281474976710655
  have h := h1.trans (h2.trans (h3.trans (h4.trans (h5.trans (h6.trans (h7.trans h8))))))
  have e : nodB (nodR x).1 = _ := rfl
  simp only [nodB, nodR, txts, nums, List.flatMap_cons, List.flatMap_nil, List.append_nil, List.append_assoc]
  exact h
theorem treR_took (x : RS) (k : Nat) (m : TreeT) (y : RS) (h : treR x k = some (m, y)) : Took x (m.flatMap nodB) y := by
  induction k generalizing m y with
  | zero => simp [treR] at h; rw [h.1, ← h.2]; exact Took.nil _
  | succ k ih =>
    simp only [treR] at h
    cases hs : treR x k with
    | none => rw [hs] at h; cases h
    | some q =>
      obtain ⟨m1, y1⟩ := q
      rw [hs] at h
      simp only at h
      split at h
      · cases h
      · simp only [Option.some.injEq, Prod.mk.injEq] at h
        rw [← h.1, ← h.2]
        have := (ih m1 y1 hs).trans (nodR_took y1)
        simpa using this

/-- the bytes of a tree -/
def normN (T : TreeT) : TreeT := (pathsF T).map fun s => (s, (mget T s).getD zN)
def layN (T : TreeT) : List UInt8 := nums [(T.length : Int)] ++ (normN T).flatMap nodB
theorem sortB_asc {l : List (List UInt8)} (h : l.Pairwise fun a b => Op.bytesLess a b = true) : sortB l = l := by
  have htr : ∀ a b c : List UInt8, decide (a ≤ b) = true → decide (b ≤ c) = true → decide (a ≤ c) = true := by
    intro a b c h1 h2
    simp only [decide_eq_true_eq] at *
    exact List.le_trans h1 h2
  have hto : ∀ a b : List UInt8, (decide (a ≤ b) || decide (b ≤ a)) = true := by
    intro a b
    simp only [Bool.or_eq_true, decide_eq_true_eq]
    exact List.le_total a b
  refine List.Perm.eq_of_pairwise (le := fun a b => decide (a ≤ b) = true) ?_ (List.pairwise_mergeSort htr hto l) (h.imp ?_) (sortB_perm l)
  · intro a b _ _ h1 h2
    simp only [decide_eq_true_eq] at h1 h2
    exact List.le_antisymm h1 h2
  · intro a b h
    rw [bytesLess_eq] at h
    simp only [decide_eq_true_eq] at *
    exact List.le_of_lt h
theorem AscN.norm {m : TreeT} (h : AscN m) : normN m = m := by
  unfold normN pathsF
  rw [sortB_asc h.asc]
  simp only [keys, List.map_map]
  conv => rhs; rw [← List.map_id m]
  apply List.map_congr_left
  intro p hp
  simp [mget_some h.nodup (show (p.1, p.2) ∈ m from hp)]
theorem readTr_lay (s : List UInt8) (m : TreeT) (h : readTr (s, false) = (m, ([], false))) : layN m = s := by
  unfold readTr at h
  have h0 := rn_took (s, false) 60
  have hl := rn_lo (s, false) 60
  generalize rn (s, false) 60 = a at *
  cases hs : treR a.2 a.1.toNat with
  | none => rw [hs] at h; simp [fl] at h
  | some q =>
    obtain ⟨m1, y⟩ := q
    rw [hs] at h
    simp only at h
    split at h
    · simp [fl] at h
    · simp only [Prod.mk.injEq] at h
      obtain ⟨rfl, rfl⟩ := h
      have h1 := h0.trans (treR_took _ _ _ _ hs)
      have h2 := (h1 rfl).2
      have h3 := (treR_len _ _ _ _ hs).1
      simp only [List.append_nil] at h2
      have e : ((m1.length : Nat) : Int) = a.1 := by omega
      rw [layN, (treR_len _ _ _ _ hs).2.norm, e, h2]
      simp [nums]
theorem readTr_asc (x : RS) : (AscN (readTr x).1 ∧ (readTr x).1.length ≤ 60) ∧ ((readTr x).2.2 = true → (readTr x).1 = rootT) := by
  have hroot : AscN rootT ∧ rootT.length ≤ 60 := by
    refine ⟨⟨by simp [rootT], ?_, ?_⟩, by decide⟩
    · intro k hk
      simp [rootT] at hk
      exact .inl (by simp [hk, rootT, lastP])
    · intro k hk
      simp [rootT] at hk
      exact ⟨by rw [hk]; decide, .inl hk⟩
  unfold readTr
  have hh := rn_hi x 60 (by decide)
  have hl := rn_lo x 60
  generalize rn x 60 = a at *
  cases hs : treR a.2 a.1.toNat with
  | none => exact ⟨hroot, fun _ => rfl⟩
  | some q =>
    obtain ⟨m1, y⟩ := q
    simp only
    split
    · exact ⟨hroot, fun _ => rfl⟩
    · rename_i hy
      obtain ⟨h1, h2⟩ := treR_len _ _ _ _ hs
      refine ⟨⟨h2, by simp only; omega⟩, fun h => absurd (.inl h) hy⟩
end Go.Proofs.YtanlobdidjednaaGreatDoor
