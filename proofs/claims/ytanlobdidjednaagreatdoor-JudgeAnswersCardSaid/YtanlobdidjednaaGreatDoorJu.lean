/- The judge's pieces and what it knows, in plain words. No condition. -/
import Derived.Test.YtanlobdidjednaaGreatDoorStIs
set_option linter.unusedVariables false
set_option linter.unusedSimpArgs false
namespace Go.Proofs.YtanlobdidjednaaGreatDoor
open Go.RowKit

/-! ### pieces in any order -/
theorem stars_perm {L L' : List Asn} (p : L.Perm L') : ∀ h, stars L h → stars L' h := by
  induction p with
  | nil => exact fun h X => X
  | cons a _ ih => exact fun h X => star_mono (fun _ h => h) (fun h => ih h) X
  | swap a b l => exact fun h X => star_perm X
  | trans _ _ ih1 ih2 => exact fun h X => ih2 h (ih1 h X)
section
variable {g w : World} {L : List Asn}
theorem Sat.perm {L1 L2 : List Asn} (S0 : Sat g w (stars L1 :: L)) (p : L1.Perm L2) : Sat g w (stars L2 :: L) := S0.head fun h => stars_perm p h
theorem Sat.unstar {A : Asn} {L1 : List Asn} (S0 : Sat g w (stars (A :: L1) :: L)) : Sat g w (A :: stars L1 :: L) := S0.split
theorem Sat.restar {A : Asn} {L1 : List Asn} (S0 : Sat g w (A :: stars L1 :: L)) : Sat g w (stars (A :: L1) :: L) := S0.join
theorem Sat.starNil (S0 : Sat g w L) : Sat g w (stars [] :: L) := (S0.nil (p := True) trivial).head fun _ _ => trivial
end
theorem perm_at {α : Type} : ∀ {l : List α} {k : Nat} {x : α}, l[k]? = some x → l.Perm (x :: l.eraseIdx k) := by
  intro l
  induction l with
  | nil => intro k x h; simp at h
  | cons a r ih =>
    intro k x h
    cases k with
    | zero =>
      simp only [List.getElem?_cons_zero, Option.some.injEq] at h
      subst h
      exact List.Perm.refl _
    | succ k =>
      simp only [List.getElem?_cons_succ] at h
      rw [List.eraseIdx_cons_succ]
      exact ((ih h).cons a).trans (List.Perm.swap x a _)
section
variable {κ α : Type} [DecidableEq κ]
theorem mdel_self {m : List (κ × α)} (k : κ) (v : α) : mdel ((k, v) :: m) k = mdel m k := by
  unfold mdel
  rw [List.filter_cons_of_neg (by simp)]
theorem mdel_ne {m : List (κ × α)} {k k' : κ} (v : α) (h : k' ≠ k) : mdel ((k', v) :: m) k = (k', v) :: mdel m k := by
  unfold mdel
  rw [List.filter_cons_of_pos (by simpa using h)]
theorem mget_self (m : List (κ × α)) (k : κ) (v : α) : mget ((k, v) :: m) k = some v := by
  unfold mget
  simp
theorem mget_ne (m : List (κ × α)) {k k' : κ} (v : α) (h : k' ≠ k) : mget ((k', v) :: m) k = mget m k := by
  unfold mget
  rw [List.find?_cons_of_neg (by simpa using h)]
theorem perm_get {m : List (κ × α)} (hn : (keys m).Nodup) {k : κ} {v : α} (h : mget m k = some v) : m.Perm ((k, v) :: mdel m k) := by
  induction m with
  | nil => cases h
  | cons p r ih =>
    obtain ⟨k', v'⟩ := p
    simp only [keys, List.map_cons, List.nodup_cons] at hn
    by_cases e : k' = k
    · subst e
      rw [mget_self] at h
      cases h
      rw [mdel_self, mdel_none hn.1]
    · rw [mget_ne r v' e] at h
      rw [mdel_ne v' e]
      exact ((ih hn.2 h).cons _).trans (List.Perm.swap _ _ _)
theorem perm_put {m : List (κ × α)} (hn : (keys m).Nodup) (k : κ) (v : α) : (mput m k v).Perm ((k, v) :: mdel m k) := by
  have h1 := perm_get (nodup_mput hn k v) (k := k) (v := v) (by rw [mget_mput]; simp)
  refine h1.trans ?_
  have : mdel (mput m k v) k = mdel m k := by
    unfold mput
    split
    · rename_i h
      unfold mdel
      rw [List.filter_map]
      clear h h1 hn
      induction m with
      | nil => rfl
      | cons p r ih =>
        by_cases e : p.1 = k
        · rw [List.filter_cons_of_neg (by simp [e]), List.filter_cons_of_neg (by simp [e])]
          exact ih
        · rw [List.filter_cons_of_pos (by simp [e]), List.filter_cons_of_pos (by simp [e]), List.map_cons, if_neg e, ih]
    · unfold mdel
      rw [List.filter_append]
      simp
  rw [this]
end
/-- numbers from 1 on that are keys -/
theorem keys_upto {α : Type} : ∀ (n : Nat) {m : List (Int × α)}, (keys m).Nodup → (∀ k : Nat, 1 ≤ k → k < n → (mget m (k : Int)).isSome = true) → n ≤ m.length + 1 := by
  intro n
  induction n with
  | zero => intro m _ _; omega
  | succ n ih =>
    intro m hn h
    by_cases h0 : n = 0
    · omega
    have h1 := h n (by omega) (by omega)
    have h2 := length_mdel hn (n : Int) (mem_keys_mget.2 (Option.isSome_iff_exists.1 h1))
    have h3 := ih (nodup_mdel hn (n : Int)) (fun k hk hk2 => by
      rw [mget_mdel, if_neg (by omega)]
      exact h k hk (by omega))
    omega

/-! ### what all texts come to -/
abbrev JTx := List (Int × List UInt8)
/-- what the texts of numbers come to, up to one -/
def chainF (f : Nat → List UInt8) : Nat → StT
  | 0 => st0
  | k + 1 => (applyF (chainF f k) (f k)).2
theorem chainF_fit (f : Nat → List UInt8) (k : Nat) (hk : k ≤ 90) : FitS (chainF f k) (1 + 8 * k) k := by
  induction k with
  | zero => exact fit0
  | succ k ih =>
    have h := (ih (by omega)).step (by omega) (by omega) (f k)
    exact ⟨by rw [show 1 + 8 * (k + 1) = 1 + 8 * k + 8 by omega]; exact h.run, by have := h.kk; omega, h.gd, h.calm⟩
theorem chainF_eq {f f2 : Nat → List UInt8} (k : Nat) (h : ∀ j : Nat, j < k → f2 j = f j) : chainF f2 k = chainF f k := by
  induction k with
  | zero => rfl
  | succ k ih => simp only [chainF, h k (by omega), ih fun j h1 => h j (by omega)]
theorem chainF_at (f : Nat → List UInt8) (k : Nat) (hk : k ≤ 90) : (chainF f k).at_ = k := by
  have := (chainF_fit f k hk).run.at_
  simpa using this
def mapF (m : JTx) (k : Nat) : List UInt8 := (mget m ((k : Int) + 1)).getD []
abbrev chainS (m : JTx) : Nat → StT := chainF (mapF m)
theorem chain_fit (m : JTx) (k : Nat) (hk : k ≤ 90) : FitS (chainS m k) (1 + 8 * k) k := chainF_fit _ k hk
theorem chain_eq {m m2 : JTx} (k : Nat) (h : ∀ j : Nat, 1 ≤ j → j ≤ k → mget m2 (j : Int) = mget m (j : Int)) : chainS m2 k = chainS m k := by
  refine chainF_eq k fun j hj => ?_
  have h1 := h (j + 1) (by omega) (by omega)
  rw [show (((j + 1 : Nat) : Int)) = (j : Int) + 1 by omega] at h1
  simp only [mapF, h1]
/-- what a judge knows -/
structure JOk (m : JTx) (ss : List StT) : Prop where
  nd : (keys m).Nodup
  ml : m.length ≤ 80
  tl : ∀ p ∈ m, p.2.length ≤ 1000000
  pos : 1 ≤ ss.length
  st : ∀ (k : Nat) (s : StT), ss[k]? = some s → RelS (chainS m k) s ∧ FitS s (1 + 8 * k) k
  got : ∀ k : Nat, 1 ≤ k → k < ss.length → (mget m (k : Int)).isSome = true
theorem JOk.len {m : JTx} {ss : List StT} (h : JOk m ss) : ss.length ≤ m.length + 1 := keys_upto _ h.nd h.got
theorem JOk.init : JOk [] [st0] := ⟨by simp, by simp, by simp, by simp, fun k s hk => by
  match k, hk with
  | 0, hk =>
    simp only [List.getElem?_cons_zero, Option.some.injEq] at hk
    subst hk
    exact ⟨RelS.refl inv0, fit0⟩
  | k + 1, hk => simp at hk, fun k h1 h2 => by simp at h2; omega⟩
/-- a new text -/
theorem JOk.put {m : JTx} {ss : List StT} (h : JOk m ss) {i : Int} {t : List UInt8} (hi : mget m i = none) (hl : m.length ≤ 79) (ht : t.length ≤ 1000000) : JOk (mput m i t) ss := by
  have hne : ∀ k : Nat, 1 ≤ k → k < ss.length → (k : Int) ≠ i := by
    intro k h1 h2 e
    have := h.got k h1 h2
    rw [e, hi] at this
    cases this
  refine ⟨nodup_mput h.nd _ _, ?_, ?_, h.pos, ?_, ?_⟩
  · rw [length_mput]
    split <;> omega
  · intro p hp
    have hp2 : mget (mput m i t) p.1 = some p.2 := mget_some (nodup_mput h.nd i t) hp
    rw [mget_mput] at hp2
    split at hp2
    · cases hp2; exact ht
    · exact h.tl _ (mget_mem hp2)
  · intro k s hk
    obtain ⟨h1, h2⟩ := h.st k s hk
    have hk2 := (List.getElem?_eq_some_iff.1 hk).1
    refine ⟨?_, h2⟩
    have e : chainS (mput m i t) k = chainS m k := chain_eq k fun j h3 h4 => by rw [mget_mput, if_neg (hne j h3 (by omega))]
    rw [e]
    exact h1
  · intro k h1 h2
    rw [mget_mput, if_neg (hne k h1 h2)]
    exact h.got k h1 h2
/-- the next state -/
theorem JOk.next {m : JTx} {ss : List StT} (h : JOk m ss) {t : List UInt8} (ht : mget m (ss.length : Int) = some t) {s c : StT} (hs : ss[ss.length - 1]? = some s) (hr : RelS s c) (hf : FitS c (1 + 8 * (ss.length - 1)) (ss.length - 1)) :
    JOk m (ss ++ [(applyF c t).2]) := by
  have hlen := h.len
  have hml := h.ml
  have hpos := h.pos
  obtain ⟨h1, h2⟩ := h.st _ _ hs
  refine ⟨h.nd, h.ml, h.tl, by simp, ?_, ?_⟩
  · intro k x hk
    by_cases hlt : k < ss.length
    · rw [List.getElem?_append_left hlt] at hk
      exact h.st k x hk
    · have hke : k = ss.length := by
        have := (List.getElem?_eq_some_iff.1 hk).1
        simp at this
        omega
      subst hke
      rw [List.getElem?_append_right (by omega)] at hk
      simp only [Nat.sub_self, List.getElem?_cons_zero, Option.some.injEq] at hk
      subst hk
      obtain ⟨n, hn⟩ : ∃ n, ss.length = n + 1 := ⟨ss.length - 1, by omega⟩
      rw [hn] at ht hf ⊢
      simp only [Nat.add_sub_cancel] at hf
      rw [hn] at h1
      simp only [Nat.add_sub_cancel] at h1
      have hc := chain_fit m n (by omega)
      have ht2 : mget m ((n : Int) + 1) = some t := by rw [← ht]; congr 1
      have h3 := hc.same (by omega) (h1.trans hr) t
      have h4 := hf.step (by omega) (by omega) t
      refine ⟨?_, ?_⟩
      · show RelS (applyF (chainS m n) (mapF m n)).2 _
        rw [show mapF m n = t by simp only [mapF, ht2]; rfl]
        exact h3.2
      · rw [show 1 + 8 * (n + 1) = 1 + 8 * n + 8 by omega]
        exact h4
  · intro k h1 h2
    simp only [List.length_append, List.length_cons, List.length_nil] at h2
    by_cases hlt : k < ss.length
    · exact h.got k h1 hlt
    · rw [show k = ss.length by omega, ht]
      rfl
end Go.Proofs.YtanlobdidjednaaGreatDoor
