/- The law TreeSerials: plain; what Delete does. -/
import Derived.Test.YtecpfnobnpddaaaDoorTQuo
set_option linter.unusedVariables false
set_option linter.unusedSimpArgs false
namespace Go.Proofs.YtecpfnobnpddaaaDoor

theorem up_root : upF [47] = ([], []) := by unfold upF; rw [if_pos (.inl rfl)]
theorem mdel_head {κ α : Type} [DecidableEq κ] {m : List (κ × α)} {k k' : κ} {v : α} (h : k' ≠ k) : mdel ((k', v) :: m) k = (k', v) :: mdel m k := by
  simp [mdel, h]

structure SerT (T : TreeT) (b k : Nat) : Prop where
  form : ∃ l : TreeT, T = ([47], ⟨[], 0, b, 0, 0, 0, k⟩) :: l ∧ (∀ p ∈ l, ∃ i < k, p = (numN i, qN i)) ∧ l.length ≤ k
theorem ser_start : SerT [([47], zN)] 0 0 := ⟨[], rfl, by simp, by simp⟩
theorem SerT.out {T : TreeT} {b k : Nat} (l : TreeT) (h : ∀ p ∈ l, ∃ i < k, p = (numN i, qN i)) : [47] ∉ keys l := by
  intro hm
  obtain ⟨p, hp, e⟩ := List.mem_map.1 hm
  obtain ⟨i, _, rfl⟩ := h p hp
  exact num_root i e
theorem SerT.root {T : TreeT} {b k : Nat} (h : SerT T b k) : mget T [47] = some ⟨[], 0, b, 0, 0, 0, k⟩ := by
  obtain ⟨l, rfl, _, _⟩ := h
  simp [mget]
theorem SerT.fresh {T : TreeT} {b k : Nat} (h : SerT T b k) (hk : k < 10 ^ 10) : mget T (numN k) = none := by
  obtain ⟨l, rfl, h1, _⟩ := h
  rw [mget_none]
  intro hm
  simp only [keys, List.map_cons, List.mem_cons] at hm
  rcases hm with hm | hm
  · exact num_root k hm
  · obtain ⟨p, hp, e⟩ := List.mem_map.1 hm
    obtain ⟨i, hi, rfl⟩ := h1 p hp
    have := (num_inj (by omega) hk).1 e
    omega
theorem SerT.create {T : TreeT} {b k : Nat} (h : SerT T b k) (hk : k < 50) : ∃ T', createF T [47, 110] [] 0 ((k : Int) + 1) true = (numN k, 0, T') ∧ SerT T' (b + 1) (k + 1) ∧ mget T' (numN k) = some (qN k) := by
  have h1 := h.root
  have h2 := h.fresh (by omega)
  obtain ⟨l, rfl, h3, h4⟩ := h
  refine ⟨_, ?_, ⟨l ++ [(numN k, qN k)], rfl, ?_, by simp; omega⟩, ?_⟩
  · rw [createF_num 0 _ check_n (by decide) (by decide) up_n h1 rfl (serial_num k (by omega)) (check_num k) h2, if_neg (by simp; omega), mput_head (SerT.out (T := []) (b := 0) (k := k) l h3), mput_new]
    · simp [moreN, newN, qN]
    · rw [mget_none]
      rw [mget_none] at h2
      simpa using h2
  · intro p hp
    rcases List.mem_append.1 hp with hp | hp
    · obtain ⟨i, hi, e⟩ := h3 p hp
      exact ⟨i, by omega, e⟩
    · exact ⟨k, by omega, by simpa using hp⟩
  · rw [mget_none] at h2
    have h5 : mget l (numN k) = none := by
      rw [mget_none]
      intro hm
      exact h2 (by simp only [keys, List.map_cons, List.mem_cons]; exact .inr hm)
    have h6 : ¬ [47] = numN k := fun e => num_root k e.symm
    simp only [mget, Option.map_eq_none_iff] at h5
    simp [mget, h6, h5]

/-! ### Delete -/
def kidL (T : TreeT) (s : List UInt8) : List (List UInt8) := (T.filter fun p => decide ((upF p.1).1 = s)).map fun p => (upF p.1).2
def lessN (a : NodeT) : NodeT := ⟨a.data, a.version, a.below + 1, a.owner, a.made, a.set, a.serial⟩
def deleteF (T : TreeT) (s : List UInt8) (v : Int) : Int × TreeT :=
  if (atF T s v).2 ≠ 0 then ((atF T s v).2, T) else if s = [47] then (1, T) else if kidL T s ≠ [] then (13, T) else
  (0, mdel (mput T (upF s).1 (lessN ((mget T (upF s).1).getD zN))) s)
theorem SerT.delete {T : TreeT} {b k : Nat} (h : SerT T b (k + 1)) (hg : mget T (numN k) = some (qN k)) : ∃ T', deleteF T (numN k) 0 = (0, T') ∧ SerT T' (b + 1) (k + 1) := by
  have h1 := h.root
  have ha : atF T (numN k) 0 = (qN k, 0) := by
    have : getF T (numN k) = (qN k, 0) := by
      unfold getF
      rw [if_pos (check_num k), hg]
    unfold atF
    rw [this, if_neg (by simp [qN])]
  obtain ⟨l, rfl, h3, h4⟩ := h
  have hkid : kidL (([47], ⟨[], 0, (b : Int), 0, 0, 0, ((k + 1 : Nat) : Int)⟩) :: l) (numN k) = [] := by
    unfold kidL
    rw [List.map_eq_nil_iff, List.filter_eq_nil_iff]
    intro p hp
    rcases List.mem_cons.1 hp with rfl | hp
    · rw [up_root]
      simp [numN]
    · obtain ⟨i, _, rfl⟩ := h3 p hp
      rw [up_num]
      simp [numN, numP]
  refine ⟨_, ?_, ⟨mdel l (numN k), rfl, ?_, ?_⟩⟩
  · unfold deleteF
    rw [ha, if_neg (by simp), if_neg (num_root k), if_neg (by rw [hkid]; simp), up_num, h1]
    simp only [Option.getD_some]
    rw [mput_head (SerT.out (T := []) (b := 0) (k := k + 1) l h3), mdel_head (fun e => num_root k e.symm)]
    simp [lessN]
  · intro p hp
    exact h3 p (List.mem_filter.1 hp).1
  · exact Nat.le_trans (List.length_filter_le _ _) h4
end Go.Proofs.YtecpfnobnpddaaaDoor
