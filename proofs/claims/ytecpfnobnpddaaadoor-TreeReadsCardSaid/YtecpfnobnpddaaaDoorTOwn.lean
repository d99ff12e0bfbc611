/- The law TreeOwners: plain. -/
import Derived.Test.YtecpfnobnpddaaaDoorTOwned
import Derived.Test.YtecpfnobnpddaaaDoorTSerW
set_option linter.unusedVariables false
set_option linter.unusedSimpArgs false
namespace Go.Proofs.YtecpfnobnpddaaaDoor

theorem mput_last {κ α : Type} [DecidableEq κ] {m : List (κ × α)} {k : κ} {v v' : α} (h : k ∉ keys m) : mput (m ++ [(k, v)]) k v' = m ++ [(k, v')] := by
  have hs : (mget (m ++ [(k, v)]) k).isSome = true := by
    have : k ∈ keys (m ++ [(k, v)]) := by simp [keys]
    obtain ⟨u, hu⟩ := mem_keys_mget.1 this
    rw [hu]; rfl
  unfold mput
  rw [if_pos hs, List.map_append]
  congr 1
  · conv => rhs; rw [← List.map_id m]
    apply List.map_congr_left
    intro q hq
    have : ¬ q.1 = k := fun e => h (List.mem_map.2 ⟨q, hq, e⟩)
    simp [this]
  · simp
theorem mdel_last {κ α : Type} [DecidableEq κ] {m : List (κ × α)} {k : κ} {v : α} (h : k ∉ keys m) : mdel (m ++ [(k, v)]) k = m := by
  have : mdel (m ++ [(k, v)]) k = mdel m k := by simp [mdel]
  rw [this, mdel_none h]
theorem mget_last {κ α : Type} [DecidableEq κ] {m : List (κ × α)} {k : κ} {v : α} (h : k ∉ keys m) : mget (m ++ [(k, v)]) k = some v := by
  have h1 : m.find? (fun p => decide (p.1 = k)) = none := by
    have := mget_none.2 h
    simpa [mget] using this
  simp [mget, h1]

/-- the root, and nodes 0 to k-1 with their owners -/
structure OwnT (T : TreeT) (os : List Int) : Prop where
  form : ∃ l : TreeT, T = ([47], ⟨[], 0, os.length, 0, 0, 0, os.length⟩) :: l ∧ l.length = os.length ∧ ∀ i p, l[i]? = some p → p.1 = numN i ∧ some p.2.owner = os[i]? ∧ p.2.serial = 0 ∧ 0 ≤ p.2.below ∧ p.2.below ≤ 2
theorem own_start : OwnT [([47], zN)] [] := ⟨[], rfl, rfl, by intro i p h; simp at h⟩
theorem OwnT.keysL {T : TreeT} {os : List Int} {l : TreeT} (h2 : l.length = os.length) (h3 : ∀ i p, l[i]? = some p → p.1 = numN i ∧ some p.2.owner = os[i]? ∧ p.2.serial = 0 ∧ 0 ≤ p.2.below ∧ p.2.below ≤ 2) {s : List UInt8} (hs : s ∈ keys l) : ∃ i < os.length, s = numN i := by
  obtain ⟨p, hp, rfl⟩ := List.mem_map.1 hs
  obtain ⟨i, hi, e⟩ := List.mem_iff_getElem.1 hp
  exact ⟨i, by omega, (h3 i p (by rw [List.getElem?_eq_getElem hi, e])).1⟩
theorem OwnT.keys_ {T : TreeT} {os : List Int} (h : OwnT T os) {s : List UInt8} (hs : s ∈ keys T) : s = [47] ∨ ∃ i < os.length, s = numN i := by
  obtain ⟨l, rfl, h2, h3⟩ := h
  simp only [keys, List.map_cons, List.mem_cons] at hs
  rcases hs with hs | hs
  · exact .inl hs
  · exact .inr (OwnT.keysL (T := []) h2 h3 hs)
theorem OwnT.len {T : TreeT} {os : List Int} (h : OwnT T os) : T.length = os.length + 1 := by
  obtain ⟨l, rfl, h2, h3⟩ := h
  simp [h2]
theorem OwnT.paths {T : TreeT} {os : List Int} (h : OwnT T os) : PathsOk T := by
  intro p hp
  rcases h.keys_ (List.mem_map.2 ⟨p, hp, rfl⟩) with e | ⟨i, _, e⟩
  · simp [e]
  · rw [e, numN_len]; decide
theorem OwnT.nodes {T : TreeT} {os : List Int} (h : OwnT T os) (hk : os.length ≤ 60) : NodesOk T := by
  obtain ⟨l, rfl, h2, h3⟩ := h
  intro p hp
  rcases List.mem_cons.1 hp with rfl | hp
  · simp only; omega
  · obtain ⟨i, hi, e⟩ := List.mem_iff_getElem.1 hp
    obtain ⟨_, _, q1, q2, q3⟩ := h3 i p (by rw [List.getElem?_eq_getElem hi, e])
    omega
theorem OwnT.create {T : TreeT} {os : List Int} (h : OwnT T os) (o : Int) (hk : os.length < 50) :
    ∃ m : TreeT, createF T [47, 110] [] o ((os.length : Int) + 1) true = (numN os.length, 0, m ++ [(numN os.length, newN [] o ((os.length : Int) + 1))]) ∧ numN os.length ∉ keys m ∧
      (∀ n : NodeT, n.owner = o → n.serial = 0 → 0 ≤ n.below → n.below ≤ 2 → OwnT (m ++ [(numN os.length, n)]) (os ++ [o])) := by
  have hkeys := fun s => h.keys_ (s := s)
  have hlen := h.len
  obtain ⟨l, rfl, h2, h3⟩ := h
  have hroot : mget (([47], (⟨[], 0, os.length, 0, 0, 0, os.length⟩ : NodeT)) :: l) [47] = some ⟨[], 0, os.length, 0, 0, 0, os.length⟩ := by simp [mget]
  have hout : [47] ∉ keys l := by
    intro hm
    obtain ⟨i, _, e⟩ := OwnT.keysL (T := []) h2 h3 hm
    exact num_root i e.symm
  have hfl : numN os.length ∉ keys l := by
    intro hm
    obtain ⟨i, hi, e⟩ := OwnT.keysL (T := []) h2 h3 hm
    have := (num_inj (by omega) (by omega)).1 e
    omega
  have hfresh : ∀ n : NodeT, numN os.length ∉ keys (([47], n) :: l) := by
    intro n hm
    simp only [keys, List.map_cons, List.mem_cons] at hm
    rcases hm with hm | hm
    · exact num_root _ hm
    · exact hfl hm
  refine ⟨([47], ⟨[], 0, (os.length : Int) + 1, 0, 0, 0, (os.length : Int) + 1⟩) :: l, ?_, hfresh _, ?_⟩
  · rw [createF_num o _ check_n (by decide) (by decide) up_n hroot rfl (serial_num os.length (by omega)) (check_num _) (mget_none.2 (hfresh _)), if_neg (by rw [hlen]; omega), mput_head hout, mput_new (mget_none.2 (hfresh _))]
    simp [moreN]
  · intro n q1 q2 q3 q4
    refine ⟨l ++ [(numN os.length, n)], ?_, by simp [h2], ?_⟩
    · simp
    · intro i p hp
      by_cases hi : i < os.length
      · rw [List.getElem?_append_left (by omega)] at hp
        rw [List.getElem?_append_left (by omega)]
        exact h3 i p hp
      · have hi2 : i < (l ++ [(numN os.length, n)]).length := by
          rcases Nat.lt_or_ge i (l ++ [(numN os.length, n)]).length with h | h
          · exact h
          · rw [List.getElem?_eq_none h] at hp; cases hp
        have hi3 : i = os.length := by simp [h2] at hi2; omega
        subst hi3
        rw [← h2, List.getElem?_append_right (Nat.le_refl _)] at hp
        simp only [Nat.sub_self, List.getElem?_cons_zero, Option.some.injEq] at hp
        subst hp
        refine ⟨by rw [h2], ?_, q2, q3, q4⟩
        rw [List.getElem?_append_right (Nat.le_refl _)]
        simp [q1]

/-- the one below the last -/
def subN (k : Nat) : List UInt8 := numN k ++ [47, 120]
theorem subN_len (k : Nat) : (subN k).length = 14 := by simp [subN, numN_len]
theorem check_sub (k : Nat) : checkF (subN k) = 0 := check_cat (numP k) [120] (by rw [cutL_none_ (part_slash (numP_part k))]; simp [numP_part]) (by decide) (by simp [numP, fixD_length])
theorem up_sub (k : Nat) : upF (subN k) = (numN k, [120]) := by
  have := upF_cat (numN k) [120] (by decide) (by decide)
  rw [if_neg (by simp [numN])] at this
  exact this
theorem sub_root (k : Nat) : subN k ≠ [47] := fun e => by have := congrArg List.length e; rw [subN_len] at this; simp at this
theorem sub_num (k i : Nat) : subN k ≠ numN i := fun e => by have := congrArg List.length e; rw [subN_len, numN_len] at this; simp at this
theorem OwnT.subOut {T : TreeT} {os : List Int} (h : OwnT T os) (k : Nat) : subN k ∉ keys T := by
  intro hm
  rcases h.keys_ hm with e | ⟨i, _, e⟩
  · exact sub_root k e
  · exact sub_num k i e
theorem sub_eph {m : TreeT} {k : Nat} {o w : Int} (hm : numN k ∉ keys m) (ho : o ≠ 0) : createF (m ++ [(numN k, newN [] o w)]) (subN k) [] 0 w false = ([], 15, m ++ [(numN k, newN [] o w)]) := by
  have h1 : mget (m ++ [(numN k, newN [] o w)]) (numN k) = some (newN [] o w) := mget_last hm
  unfold createF
  rw [if_neg (by rw [check_sub]; decide), if_neg (sub_root k), if_neg (by decide), up_sub]
  simp only [h1]
  exact if_pos ho
theorem sub_new {m : TreeT} {k : Nat} {w : Int} (hm : numN k ∉ keys m) (hs : subN k ∉ keys m) (hl : m.length ≤ 50) :
    createF (m ++ [(numN k, newN [] 0 w)]) (subN k) [] 0 w false = (subN k, 0, m ++ [(numN k, moreN (newN [] 0 w) false)] ++ [(subN k, newN [] 0 w)]) ∧
    deleteF (m ++ [(numN k, moreN (newN [] 0 w) false)] ++ [(subN k, newN [] 0 w)]) (subN k) (-1) = if kidL (m ++ [(numN k, moreN (newN [] 0 w) false)] ++ [(subN k, newN [] 0 w)]) (subN k) = [] then (0, m ++ [(numN k, moreN (moreN (newN [] 0 w) false) false)]) else (13, m ++ [(numN k, moreN (newN [] 0 w) false)] ++ [(subN k, newN [] 0 w)]) := by
  have h1 : mget (m ++ [(numN k, newN [] 0 w)]) (numN k) = some (newN [] 0 w) := mget_last hm
  have hout : ∀ n, subN k ∉ keys (m ++ [(numN k, n)]) := by
    intro n h
    simp only [keys, List.map_append, List.mem_append, List.map_cons, List.map_nil, List.mem_singleton] at h
    rcases h with h | h
    · exact hs h
    · exact sub_num k k h
  constructor
  · rw [createF_new 0 w (check_sub k) (sub_root k) (by decide) (up_sub k) h1 rfl (mget_none.2 (hout _)), if_neg (by simp; omega), mput_last hm, mput_new (mget_none.2 (hout _))]
  · have hg : mget (m ++ [(numN k, moreN (newN [] 0 w) false)] ++ [(subN k, newN [] 0 w)]) (subN k) = some (newN [] 0 w) := mget_last (hout _)
    have hgn : mget (m ++ [(numN k, moreN (newN [] 0 w) false)] ++ [(subN k, newN [] 0 w)]) (numN k) = some (moreN (newN [] 0 w) false) := by
      have e : m ++ [(numN k, moreN (newN [] 0 w) false)] ++ [(subN k, newN [] 0 w)] = mput (m ++ [(numN k, moreN (newN [] 0 w) false)]) (subN k) (newN [] 0 w) := (mput_new (mget_none.2 (hout _))).symm
      rw [e, mget_mput, if_neg (fun e => sub_num k k e.symm)]
      exact mget_last hm
    have hat : atF (m ++ [(numN k, moreN (newN [] 0 w) false)] ++ [(subN k, newN [] 0 w)]) (subN k) (-1) = (newN [] 0 w, 0) := by
      have : getF (m ++ [(numN k, moreN (newN [] 0 w) false)] ++ [(subN k, newN [] 0 w)]) (subN k) = (newN [] 0 w, 0) := by
        unfold getF
        rw [if_pos (check_sub k), hg]
      unfold atF
      rw [this, if_neg (by simp)]
    have hput : mput (m ++ [(numN k, moreN (newN [] 0 w) false)] ++ [(subN k, newN [] 0 w)]) (numN k) (lessN (moreN (newN [] 0 w) false)) = m ++ [(numN k, moreN (moreN (newN [] 0 w) false) false)] ++ [(subN k, newN [] 0 w)] := by
      unfold mput
      rw [hgn]
      simp only [Option.isSome_some, if_true, List.map_append, List.map_cons, List.map_nil]
      have e1 : m.map (fun p => if p.1 = numN k then (numN k, lessN (moreN (newN [] 0 w) false)) else p) = m := by
        conv => rhs; rw [← List.map_id m]
        apply List.map_congr_left
        intro q hq
        have : ¬ q.1 = numN k := fun e => hm (List.mem_map.2 ⟨q, hq, e⟩)
        simp [this]
      rw [e1, if_neg (sub_num k k)]
      rfl
    unfold deleteF
    rw [hat, if_neg (by simp), if_neg (sub_root k), up_sub, hgn]
    simp only [Option.getD_some]
    rw [hput, mdel_last (hout _)]
    by_cases hk : kidL (m ++ [(numN k, moreN (newN [] 0 w) false)] ++ [(subN k, newN [] 0 w)]) (subN k) = []
    · rw [if_neg (fun h => h hk), if_pos hk]
    · rw [if_pos hk, if_neg hk]
theorem sub_kids {m : TreeT} {k : Nat} {n n' : NodeT} {os : List Int} (h : OwnT (m ++ [(numN k, n)]) os) : kidL (m ++ [(numN k, n)] ++ [(subN k, n')]) (subN k) = [] := by
  unfold kidL
  rw [List.map_eq_nil_iff, List.filter_eq_nil_iff]
  intro p hp
  rcases List.mem_append.1 hp with hp | hp
  · rcases h.keys_ (List.mem_map.2 ⟨p, hp, rfl⟩) with e | ⟨i, _, e⟩
    · rw [e, up_root]
      simp [subN]
    · rw [e, up_num]
      simp only [decide_eq_true_eq]
      exact fun e => sub_root k e.symm
  · obtain rfl : p = (subN k, n') := by simpa using hp
    rw [up_sub]
    simp only [decide_eq_true_eq]
    exact fun e => sub_num k k e.symm

/-! ### whose are whose -/
theorem own_get_ {T : TreeT} {os : List Int} (h : OwnT T os) (hn : (keys T).Nodup) {o : Int} {s : List UInt8} (hs : s ∈ ownedF T o) : ∃ n, getF T s = (n, 0) ∧ n.owner = o := by
  unfold ownedF at hs
  obtain ⟨h1, h2⟩ := List.mem_filter.1 hs
  simp only [decide_eq_true_eq] at h2
  have hk : s ∈ keys T := (sortB_perm _).mem_iff.1 h1
  obtain ⟨n, hg⟩ := mem_keys_mget.1 hk
  have hc : checkF s = 0 := by
    rcases h.keys_ hk with e | ⟨i, _, e⟩
    · rw [e]; decide
    · rw [e]; exact check_num i
  refine ⟨n, ?_, ?_⟩
  · unfold getF
    rw [if_pos hc, hg]
  · rw [hg] at h2
    exact h2.1
theorem own_zero (T : TreeT) : ownedF T 0 = [] := by
  unfold ownedF
  rw [List.filter_eq_nil_iff]
  intro s _
  simp
def cnt (os : List Int) (j : Nat) : Nat := (os.filter fun o => decide (o = (j : Int))).length
theorem cnt_snoc (os : List Int) (o : Int) (j : Nat) : cnt (os ++ [o]) j = cnt os j + if o = (j : Int) then 1 else 0 := by
  unfold cnt
  rw [List.filter_append, List.length_append]
  congr 1
  by_cases h : o = (j : Int) <;> simp [h]
theorem own_len {T : TreeT} {os : List Int} (h : OwnT T os) (hn : (keys T).Nodup) {j : Nat} (hj : 1 ≤ j) : (ownedF T j).length = cnt os j := by
  have h1 : (ownedF T j).length = ((keys T).filter fun s => decide (((mget T s).getD zN).owner = (j : Int) ∧ (j : Int) ≠ 0)).length := ((sortB_perm (keys T)).filter _).length_eq
  rw [h1]
  have h2 : (keys T).filter (fun s => decide (((mget T s).getD zN).owner = (j : Int) ∧ (j : Int) ≠ 0)) = (T.filter fun p => decide (p.2.owner = (j : Int))).map (·.1) := by
    show (T.map (·.1)).filter _ = _
    rw [List.filter_map]
    congr 1
    apply List.filter_congr
    intro p hp
    have hg : mget T p.1 = some p.2 := mget_some hn hp
    have hj0 : (j : Int) ≠ 0 := by omega
    simp [Function.comp, hg, hj0]
    omega
  rw [h2, List.length_map]
  obtain ⟨l, rfl, h3, h4⟩ := h
  rw [List.filter_cons_of_neg (by simp; omega)]
  have h5 : l.map (·.2.owner) = os := by
    apply List.ext_getElem?
    intro i
    rw [List.getElem?_map]
    cases hl : l[i]? with
    | none =>
      have := List.getElem?_eq_none_iff.1 hl
      rw [List.getElem?_eq_none (by omega)]
      rfl
    | some p => exact (h4 i p hl).2.1
  unfold cnt
  rw [← h5, List.filter_map, List.length_map]
  rfl
theorem less_of_lt {a b : List UInt8} (h : a < b) : Op.bytesLess a b = true := by rw [bytesLess_eq]; simpa using h
theorem own_sorted {T : TreeT} (hn : (keys T).Nodup) (o : Int) : (ownedF T o).Pairwise fun a b => Op.bytesLess a b = true := by
  have htr : ∀ a b c : List UInt8, decide (a ≤ b) = true → decide (b ≤ c) = true → decide (a ≤ c) = true := by
    intro a b c h1 h2
    simp only [decide_eq_true_eq] at *
    exact List.le_trans h1 h2
  have hto : ∀ a b : List UInt8, (decide (a ≤ b) || decide (b ≤ a)) = true := by
    intro a b
    simp only [Bool.or_eq_true, decide_eq_true_eq]
    exact List.le_total a b
  have h1 : (sortB (keys T)).Pairwise fun a b => decide (a ≤ b) = true := List.pairwise_mergeSort htr hto _
  have h2 : (sortB (keys T)).Nodup := (sortB_perm (keys T)).nodup_iff.2 hn
  have h3 : (sortB (keys T)).Pairwise fun a b => Op.bytesLess a b = true := by
    refine (h1.and h2).imp ?_
    intro a b ⟨hle, hne⟩
    apply less_of_lt
    simp only [decide_eq_true_eq] at hle
    apply Classical.byContradiction
    intro hlt
    exact hne (List.le_antisymm hle (List.not_lt.1 hlt))
  exact h3.sublist List.filter_sublist
theorem own_next {T : TreeT} (hn : (keys T).Nodup) (o : Int) {k : Nat} {a b : List UInt8} (ha : (ownedF T o)[k]? = some a) (hb : (ownedF T o)[k + 1]? = some b) : Op.bytesLess a b = true := by
  obtain ⟨h1, e1⟩ := List.getElem?_eq_some_iff.1 ha
  obtain ⟨h2, e2⟩ := List.getElem?_eq_some_iff.1 hb
  have := List.pairwise_iff_getElem.1 (own_sorted hn o) k (k + 1) h1 h2 (by omega)
  rwa [e1, e2] at this
end Go.Proofs.YtecpfnobnpddaaaDoor
