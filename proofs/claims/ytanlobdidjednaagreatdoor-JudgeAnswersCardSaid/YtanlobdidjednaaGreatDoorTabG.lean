/- Plain laws: a table laid is read back, whatever lies behind; cut off it is none. No condition. -/
import Derived.Test.YtanlobdidjednaaGreatDoorSessM
set_option linter.unusedVariables false
namespace Go.Proofs.YtanlobdidjednaaGreatDoor
open Go.RowKit

/-- entries in order; what they hold -/
structure ModT (l : Tab) : Prop where
  asc : (keys l).Pairwise (· < ·)
  len : l.length ≤ 16
  lo : ∀ p ∈ l, 1 ≤ p.1 ∧ p.1 ≤ 281474976710655 ∧ 0 ≤ p.2.1 ∧ p.2.1 ≤ 281474976710655 ∧ (p.2.1 = 0 → p.2.2 = []) ∧ p.2.2.length ≤ 400
theorem ModT.nil : ModT [] := ⟨by simp [keys], by simp, by simp⟩
theorem ModT.nodup {l : Tab} (h : ModT l) : (keys l).Nodup := h.asc.imp (fun h => by omega)
theorem split_at {l : Tab} {k : Nat} {p : Int × Ses} (hk : l[k]? = some p) : l = l.take k ++ p :: l.drop (k + 1) := by
  obtain ⟨h, rfl⟩ := List.getElem?_eq_some_iff.1 hk
  rw [← List.drop_eq_getElem_cons h, List.take_append_drop]
def tabB (l : Tab) : List UInt8 := nums [(l.length : Int)] ++ l.flatMap entB
theorem entR_app (p : Int × Ses) (z : List UInt8) (h1 : 0 ≤ p.1) (h2 : p.1 ≤ 281474976710655) (h3 : 0 ≤ p.2.1) (h4 : p.2.1 ≤ 281474976710655) (h5 : p.2.2.length ≤ 400) : entR (entB p ++ z, false) = (p, (z, false)) := by
  obtain ⟨id, req, a⟩ := p
  simp only at h1 h2 h3 h4 h5
  have e : entB (id, (req, a)) ++ z = num6 id ++ (num6 req ++ (txt a ++ z)) := by simp [entB, nums, txts]
  rw [e]
  unfold entR
  rw [rn_app id _ _ h1 h2 (by omega)]
  simp only
  rw [rn_app req _ _ h3 h4 (by omega)]
  simp only
  rw [rt_app a _ 400 (by omega) (by omega)]
theorem ModT.take_last {l : Tab} (h : ModT l) {k : Nat} {p : Int × Ses} (hp : l[k]? = some p) : lastK (l.take k) < p.1 := by
  have e := split_at hp
  have ha := h.asc
  rw [e] at ha
  simp only [keys, List.map_append, List.map_cons, List.pairwise_append, List.pairwise_cons] at ha
  have h1 := (h.lo p (List.mem_of_getElem? hp)).1
  unfold lastK
  cases hg : (l.take k).getLast? with
  | none => simp only; omega
  | some q => exact ha.2.2 q.1 (List.mem_map.2 ⟨q, List.mem_of_getLast? hg, rfl⟩) p.1 (by simp)
theorem stR_app {l : Tab} (h : ModT l) (z : List UInt8) : ∀ k ≤ l.length, stR (l.flatMap entB ++ z, false) k = some (l.take k, ((l.drop k).flatMap entB ++ z, false)) := by
  intro k
  induction k with
  | zero => intro _; simp [stR]
  | succ k ih =>
    intro hk
    have hp : l[k]? = some l[k] := List.getElem?_eq_getElem (by omega)
    have hd : l.drop k = l[k] :: l.drop (k + 1) := List.drop_eq_getElem_cons (by omega)
    obtain ⟨h1, h2, h3, h4, h5, h6⟩ := h.lo _ (List.mem_of_getElem? hp)
    have hb : badE (lastK (l.take k)) l[k] = false := by
      have := h.take_last hp
      simp only [badE, Bool.or_eq_false_iff, Bool.and_eq_false_iff, decide_eq_false_iff_not]
      refine ⟨by omega, ?_⟩
      by_cases h0 : l[k].2.1 = 0
      · exact .inr (fun hn => hn (h5 h0))
      · exact .inl h0
    simp only [stR, ih (by omega)]
    rw [hd, List.flatMap_cons, List.append_assoc, entR_app _ _ (by omega) h2 h3 h4 h6]
    simp only [hb]
    rw [List.take_succ_eq_append_getElem (by omega)]
    rfl
theorem readT_tail {l : Tab} (h : ModT l) (z : List UInt8) : readT (tabB l ++ z, false) = (l, (z, false)) := by
  have e : tabB l ++ z = num6 (l.length : Int) ++ (l.flatMap entB ++ z) := by simp [tabB, nums]
  have hl := h.len
  unfold readT
  rw [e, rn_app _ 16 _ (by omega) (by omega) (by omega)]
  simp only [Int.toNat_natCast]
  rw [stR_app h z l.length (Nat.le_refl _)]
  simp
theorem stR_mod (x : RS) (k : Nat) (m : Tab) (y : RS) (h : stR x k = some (m, y)) (hk : k ≤ 16) : ModT m := by
  have hasc := stR_asc x k m y h
  have hlen := stR_length x k m y h
  refine ⟨hasc.asc, by omega, ?_⟩
  clear hlen hasc
  induction k generalizing m y with
  | zero => simp [stR] at h; rw [h.1]; simp
  | succ k ih =>
    have ha := stR_asc x (k + 1) m y h
    simp only [stR] at h
    cases hs : stR x k with
    | none => rw [hs] at h; cases h
    | some q =>
      obtain ⟨m1, y1⟩ := q
      rw [hs] at h
      simp only at h
      split at h
      · cases h
      · rename_i hb
        simp only [Option.some.injEq, Prod.mk.injEq] at h
        obtain ⟨rfl, _⟩ := h
        intro p hp
        rcases List.mem_append.1 hp with hp | hp
        · exact ih m1 y1 hs (by omega) p hp
        · simp only [List.mem_singleton] at hp
          have hlo := ha.lo p.1 (List.mem_map.2 ⟨p, by simp [hp], rfl⟩)
          subst hp
          have q1 := rn_lo (rn y1 281474976710655).2 281474976710655
          have q2 := rn_hi (rn y1 281474976710655).2 281474976710655 (by decide)
          have q3 := rt_len (rn (rn y1 281474976710655).2 281474976710655).2 400 (by decide)
          simp only [badE, Bool.or_eq_true, Bool.and_eq_true, decide_eq_true_eq, not_or, not_and, Decidable.not_not] at hb
          exact ⟨hlo.1, hlo.2.2, q1, q2, hb.2, by simp only [entR]; omega⟩
theorem readT_cut {l : Tab} (h : ModT l) (r : Nat) (hr : r < (tabB l).length) : (readT ((tabB l).take r, false)).2.2 = true := by
  cases hf : (readT ((tabB l).take r, false)).2.2 with
  | true => rfl
  | false =>
    exfalso
    have hh := rn_hi ((tabB l).take r, false) 16 (by decide)
    have hlo := rn_lo ((tabB l).take r, false) 16
    have h0 := rn_took ((tabB l).take r, false) 16
    unfold readT at hf
    generalize rn ((tabB l).take r, false) 16 = a at *
    cases hs : stR a.2 a.1.toNat with
    | none => rw [hs] at hf; simp [fl] at hf
    | some q =>
      obtain ⟨m, y⟩ := q
      rw [hs] at hf
      simp only at hf
      split at hf
      · rename_i hy; simp only at hf; rw [hy] at hf; cases hf
      · rename_i hy
        have h1 := h0.trans (stR_took _ _ _ _ hs)
        have h2 := (h1 (by simpa using hy)).2
        have hm := stR_mod _ _ _ _ hs (by omega)
        have hlen := stR_length _ _ _ _ hs
        have e : ((m.length : Nat) : Int) = a.1 := by omega
        simp only at h2
        have h3 : (tabB l).take r = tabB m ++ y.1 := by rw [h2]; simp [tabB, nums, e]
        have h4 : tabB l = tabB m ++ (y.1 ++ (tabB l).drop r) := by
          rw [← List.append_assoc, ← h3, List.take_append_drop]
        have h5 := readT_tail h []
        rw [List.append_nil, h4, readT_tail hm] at h5
        simp only [Prod.mk.injEq, and_true, List.append_eq_nil_iff, List.drop_eq_nil_iff] at h5
        omega
theorem tabB_len (l : Tab) : 6 ≤ (tabB l).length := by
  unfold tabB
  rw [List.length_append, nums_length]
  simp

end Go.Proofs.YtanlobdidjednaaGreatDoor
