/- The law TreeQuotas: plain. -/
import Derived.Test.YtecpfnobnpddaaaDoorTreeP
set_option linter.unusedVariables false
set_option linter.unusedSimpArgs false
namespace Go.Proofs.YtecpfnobnpddaaaDoor

def rN (k : Nat) : NodeT := ⟨[], 0, k, 0, 0, 0, k⟩
def qN (i : Nat) : NodeT := ⟨[], 0, 0, 0, (i : Int) + 1, (i : Int) + 1, 0⟩
def qT (k : Nat) : TreeT := ([47], rN k) :: (List.range k).map fun i => (numN i, qN i)
theorem qT_len (k : Nat) : (qT k).length = k + 1 := by simp [qT]
theorem qT_root (k : Nat) : mget (qT k) [47] = some (rN k) := by simp [qT, mget]
theorem qT_out (k : Nat) : [47] ∉ keys ((List.range k).map fun i => (numN i, qN i)) := by
  intro h
  simp only [keys, List.map_map, List.mem_map, Function.comp] at h
  obtain ⟨i, _, e⟩ := h
  exact num_root i e
theorem qT_none (k : Nat) (hk : k < 10 ^ 10) : mget (qT k) (numN k) = none := by
  rw [mget_none]
  intro h
  simp only [qT, keys, List.map_cons, List.mem_cons, List.map_map, List.mem_map, Function.comp, List.mem_range] at h
  rcases h with h | ⟨i, hi, e⟩
  · exact num_root k h
  · have := (num_inj (by omega) hk).1 e
    omega
theorem qT_put (k : Nat) (hk : k < 10 ^ 10) : mput (mput (qT k) [47] (rN (k + 1))) (numN k) (qN k) = qT (k + 1) := by
  have e1 : mput (qT k) [47] (rN (k + 1)) = ([47], rN (k + 1)) :: (List.range k).map fun i => (numN i, qN i) := mput_head (qT_out k)
  have e2 : mget (mput (qT k) [47] (rN (k + 1))) (numN k) = none := by
    rw [mget_mput, if_neg (num_root k), qT_none k hk]
  rw [mput_new e2, e1]
  simp [qT, List.range_succ]
theorem qT_new (k : Nat) (hk : k < 59) : createF (qT k) [47, 110] [] 0 ((k : Int) + 1) true = (numN k, 0, qT (k + 1)) := by
  rw [createF_num 0 _ check_n (by decide) (by decide) up_n (qT_root k) rfl (serial_num k (by omega)) (check_num k) (qT_none k (by omega)), if_neg (by rw [qT_len]; omega), ← qT_put k (by omega)]
  rfl
theorem qT_full (w : Int) : createF (qT 59) [47, 110] [] 0 w true = ([], 16, qT 59) := by
  rw [createF_num 0 _ check_n (by decide) (by decide) up_n (qT_root 59) rfl (serial_num 59 (by decide)) (check_num 59) (qT_none 59 (by decide)), if_pos (by rw [qT_len]; decide)]

/-! ### the example -/
def hA : List UInt8 := [47, 97]
def hT1 : TreeT := [([47], ⟨[], 0, 1, 0, 0, 0, 0⟩), (hA, ⟨[], 0, 0, 0, 1, 1, 0⟩)]
def hK (k : Nat) : List UInt8 := hA ++ 47 :: numP k
def hT2 : TreeT := [([47], ⟨[], 0, 1, 0, 0, 0, 0⟩), (hA, ⟨[], 0, 1, 0, 1, 1, 1⟩), (hK 0, ⟨[], 0, 0, 0, 2, 2, 0⟩)]
def hT3 : TreeT := [([47], ⟨[], 0, 1, 0, 0, 0, 0⟩), (hA, ⟨[], 0, 2, 0, 1, 1, 2⟩), (hK 0, ⟨[], 0, 0, 0, 2, 2, 0⟩), (hK 1, ⟨[], 0, 0, 0, 3, 3, 0⟩)]
theorem serial_h (k : Nat) (hk : k < 10 ^ 10) : serialF [47, 97, 47, 110] k = hK k := by
  have := (pad_fix 10 k (by decide) hk).2
  show [47, 97, 47, 110] ++ Lib.repeatL [48] (10 - (Lib.decDigits k).length) ++ Lib.decDigits k = _
  rw [List.append_assoc, this]
  rfl
theorem check_h (k : Nat) : checkF (hK k) = 0 := check_cat [97] (numP k) (by decide) (numP_part k) (by simp [numP, fixD_length])
theorem up_h : upF [47, 97, 47, 110] = (hA, [110]) := upF_cat [47, 97] [110] (by decide) (by decide)
theorem up_ha : upF hA = ([47], [97]) := upF_cat [] [97] (by decide) (by decide)
theorem hK_ne (k : Nat) : hK k ≠ [47] ∧ hK k ≠ hA := by
  refine ⟨by simp [hK, hA], by simp [hK, hA]⟩
theorem hK_inj {j k : Nat} (hj : j < 10 ^ 10) (hk : k < 10 ^ 10) : hK j = hK k ↔ j = k := by
  unfold hK numP
  rw [List.append_cancel_left_eq, List.cons_inj_right, List.cons_inj_right, fixD_inj 10 j k hj hk]
theorem ex_one : createF (qT 0) [47, 97] [] 0 1 false = (hA, 0, hT1) := by
  have h : checkF [47, 97] = 0 := by decide
  have u : upF [47, 97] = ([47], [97]) := up_ha
  rw [createF_new 0 1 h (by decide) (by decide) u (qT_root 0) rfl (by decide), if_neg (by decide)]
  decide
theorem ex_two : createF hT1 [47, 97, 47, 110] [] 0 2 true = (hK 0, 0, hT2) := by
  have h : checkF [47, 97, 47, 110] = 0 := by decide
  have m1 : mget hT1 hA = some ⟨[], 0, 0, 0, 1, 1, 0⟩ := by decide
  have n1 := hK_ne 0
  have m2 : mget hT1 (hK 0) = none := by
    rw [mget_none]
    simp [hT1, n1]
  rw [createF_num 0 2 h (by decide) (by decide) up_h m1 rfl (serial_h 0 (by decide)) (check_h 0) m2, if_neg (by decide)]
  rw [mput_new (by rw [mget_mput, if_neg n1.2, m2])]
  rfl
theorem ex_three : createF hT2 [47, 97, 47, 110] [] 0 3 true = (hK 1, 0, hT3) := by
  have h : checkF [47, 97, 47, 110] = 0 := by decide
  have m1 : mget hT2 hA = some ⟨[], 0, 1, 0, 1, 1, 1⟩ := by rfl
  have n1 := hK_ne 1
  have n0 := hK_ne 0
  have n2 : hK 1 ≠ hK 0 := fun e => by have := (hK_inj (by decide) (by decide)).1 e; omega
  have m2 : mget hT2 (hK 1) = none := by
    rw [mget_none]
    simp [hT2, n1, n2]
  have e1 : mput hT2 hA ⟨[], 0, 2, 0, 1, 1, 2⟩ = [([47], ⟨[], 0, 1, 0, 0, 0, 0⟩), (hA, ⟨[], 0, 2, 0, 1, 1, 2⟩), (hK 0, ⟨[], 0, 0, 0, 2, 2, 0⟩)] := by
    unfold mput
    rw [m1]
    simp [hT2, n0]
    decide
  rw [createF_num 0 3 h (by decide) (by decide) up_h m1 rfl (serial_h 1 (by decide)) (check_h 1) m2, if_neg (by decide)]
  rw [mput_new (by rw [mget_mput, if_neg n1.2, m2])]
  show (_, _, mput hT2 hA ⟨[], 0, 2, 0, 1, 1, 2⟩ ++ _) = _
  rw [e1]
  rfl
end Go.Proofs.YtecpfnobnpddaaaDoor
