/- A book read from bytes: plain. No condition. -/
import Derived.Test.YtbfogieeiobpdaaGreatDoorBookL
set_option linter.unusedVariables false
set_option linter.unusedSimpArgs false
namespace Go.Proofs.YtbfogieeiobpdaaGreatDoor

def watR (x : RS) : WatT × RS :=
  let a := rn x 281474976710655
  let b := rt a.2 60
  let c := rf b.2
  let d := rf c.2
  (⟨a.1, b.1, c.1, d.1⟩, d.2)
def lastBad (ws : List WatT) (x : WatT) : Bool := match ws.getLast? with
  | some l => decide (0 ≤ ordF l x)
  | none => false
def badW (ws : List WatT) (x : WatT) : Bool := lastBad ws x || decide (checkF x.path ≠ 0) || decide (x.session < 1)
def wsR (x : RS) : Nat → List WatT × RS
  | 0 => ([], x)
  | k + 1 => ((wsR x k).1 ++ [(watR (wsR x k).2).1], if badW (wsR x k).1 (watR (wsR x k).2).1 = true then fl else (watR (wsR x k).2).2)
def evR (x : RS) : EvT × RS :=
  let a := rn x 281474976710655
  let b := rn a.2 281474976710655
  let c := rt b.2 60
  let d := rn c.2 4
  let e := rn d.2 281474976710655
  (⟨a.1, b.1, c.1, d.1, e.1⟩, e.2)
def esR (x : RS) : Nat → List EvT × RS
  | 0 => ([], x)
  | k + 1 => ((esR x k).1 ++ [(evR (esR x k).2).1], (evR (esR x k).2).2)
def noR (x : RS) : (Int × Int) × RS :=
  let a := rn x 281474976710655
  let b := rn a.2 281474976710655
  ((a.1, b.1), b.2)
def nosR (x : RS) : Nat → List (Int × Int) × Int × RS
  | 0 => ([], 0, x)
  | k + 1 => (mput (nosR x k).1 (noR (nosR x k).2.2).1.1 (noR (nosR x k).2.2).1.2, (noR (nosR x k).2.2).1.1, if (noR (nosR x k).2.2).1.1 ≤ (nosR x k).2.1 then fl else (noR (nosR x k).2.2).2)
def wsP (x : RS) : List WatT × RS := wsR (rn x 40).2 (rn x 40).1.toNat
def esP (x : RS) : List EvT × RS := esR (rn x 1024).2 (rn x 1024).1.toNat
def nosP (x : RS) : List (Int × Int) × RS := ((nosR (rn x 1024).2 (rn x 1024).1.toNat).1, (nosR (rn x 1024).2 (rn x 1024).1.toNat).2.2)
def readB (x : RS) : BookT × RS :=
  let a := wsP x
  let b := esP a.2
  let c := nosP b.2
  (if c.2.2 = true then ⟨[], [], []⟩ else ⟨a.1, b.1, c.1⟩, c.2)

theorem wsR_len (x : RS) (k : Nat) : (wsR x k).1.length = k := by
  induction k with
  | zero => rfl
  | succ k ih => simp [wsR, ih]
theorem esR_len (x : RS) (k : Nat) : (esR x k).1.length = k := by
  induction k with
  | zero => rfl
  | succ k ih => simp [esR, ih]
theorem nosR_len (x : RS) (k : Nat) : (nosR x k).1.length ≤ k := by
  induction k with
  | zero => exact Nat.le_refl _
  | succ k ih =>
    simp only [nosR, length_mput]
    split <;> omega
theorem watR_took (x : RS) : Took x (watB (watR x).1) (watR x).2 := by
  have h1 := rn_took x 281474976710655
  have h2 := rt_took (rn x 281474976710655).2 60
  have h3 := rf_took (rt (rn x 281474976710655).2 60).2
  have h4 := rf_took (rf (rt (rn x 281474976710655).2 60).2).2
  have h := h1.trans (h2.trans (h3.trans h4))
  simp only [watB, watR, txts, nums, flags, List.flatMap_cons, List.flatMap_nil, List.append_nil, List.append_assoc, List.map_cons, List.map_nil]
  exact h
theorem evR_took (x : RS) : Took x (evB (evR x).1) (evR x).2 := by
  have h1 := rn_took x 281474976710655
  have h2 := rn_took (rn x 281474976710655).2 281474976710655
  have h3 := rt_took (rn (rn x 281474976710655).2 281474976710655).2 60
  have h4 := rn_took (rt (rn (rn x 281474976710655).2 281474976710655).2 60).2 4
  have h5 := rn_took (rn (rt (rn (rn x 281474976710655).2 281474976710655).2 60).2 4).2 281474976710655
  have h := h1.trans (h2.trans (h3.trans (h4.trans h5)))
  simp only [evB, evR, txts, nums, List.flatMap_cons, List.flatMap_nil, List.append_nil, List.append_assoc]
  exact h
theorem noR_took (x : RS) : Took x (nosB (noR x).1) (noR x).2 := by
  have h1 := rn_took x 281474976710655
  have h2 := rn_took (rn x 281474976710655).2 281474976710655
  have h := h1.trans h2
  simp only [nosB, noR, nums, List.flatMap_cons, List.flatMap_nil, List.append_nil]
  exact h
theorem wsR_took (x : RS) (k : Nat) : Took x ((wsR x k).1.flatMap watB) (wsR x k).2 := by
  induction k with
  | zero => exact Took.nil _
  | succ k ih =>
    simp only [wsR]
    split
    · intro h; simp [fl] at h
    · have := ih.trans (watR_took (wsR x k).2)
      simpa using this
theorem esR_took (x : RS) (k : Nat) : Took x ((esR x k).1.flatMap evB) (esR x k).2 := by
  induction k with
  | zero => exact Took.nil _
  | succ k ih =>
    simp only [esR]
    have := ih.trans (evR_took (esR x k).2)
    simpa using this
/-- numbers in order, as long as nothing failed -/
theorem nosR_good (x : RS) (k : Nat) (h : (nosR x k).2.2.2 = false) : (keys (nosR x k).1).Pairwise (· < ·) ∧ (∀ j ∈ keys (nosR x k).1, j ≤ (nosR x k).2.1) ∧ x.2 = false ∧ x.1 = (nosR x k).1.flatMap nosB ++ (nosR x k).2.2.1 := by
  induction k with
  | zero => exact ⟨by simp [nosR], by simp [nosR], h, by simp [nosR]⟩
  | succ k ih =>
    simp only [nosR] at h ⊢
    split at h
    · simp [fl] at h
    · rename_i hb
      rw [if_neg hb]
      have ht := noR_took (nosR x k).2.2 h
      obtain ⟨h1, h2, h3, h4⟩ := ih ht.1
      have hfresh : (noR (nosR x k).2.2).1.1 ∉ keys (nosR x k).1 := fun hm => by have := h2 _ hm; omega
      have hput : mput (nosR x k).1 (noR (nosR x k).2.2).1.1 (noR (nosR x k).2.2).1.2 = (nosR x k).1 ++ [(noR (nosR x k).2.2).1] := by
        unfold mput
        rw [mget_none.2 hfresh]
        rfl
      have hk : keys ((nosR x k).1 ++ [(noR (nosR x k).2.2).1]) = keys (nosR x k).1 ++ [(noR (nosR x k).2.2).1.1] := by simp [keys]
      rw [hput, hk]
      refine ⟨?_, ?_, h3, ?_⟩
      · rw [List.pairwise_append]
        refine ⟨h1, by simp, fun a ha b hb => ?_⟩
        simp only [List.mem_singleton] at hb
        subst hb
        have := h2 a ha
        omega
      · intro j hj
        rcases List.mem_append.1 hj with hj | hj
        · have := h2 j hj; omega
        · simp only [List.mem_singleton] at hj; omega
      · rw [h4, ht.2, List.flatMap_append]
        simp
theorem normZ_asc {l : List (Int × Int)} (h : (keys l).Pairwise (· < ·)) : normZ l = l := by
  unfold normZ
  rw [sortZ_asc h]
  have hn : (keys l).Nodup := h.imp fun {a b} h e => by omega
  simp only [keys, List.map_map]
  conv => rhs; rw [← List.map_id l]
  apply List.map_congr_left
  intro p hp
  simp [mget_some hn (show (p.1, p.2) ∈ l from hp)]
theorem wsP_took (x : RS) : Took x (nums [((wsP x).1.length : Int)] ++ (wsP x).1.flatMap watB) (wsP x).2 := by
  have h0 := rn_took x 40
  have hl := rn_lo x 40
  have e : (((wsP x).1.length : Nat) : Int) = (rn x 40).1 := by unfold wsP; rw [wsR_len]; omega
  rw [e]
  have := h0.trans (wsR_took (rn x 40).2 (rn x 40).1.toNat)
  simpa [nums, wsP] using this
theorem esP_took (x : RS) : Took x (nums [((esP x).1.length : Int)] ++ (esP x).1.flatMap evB) (esP x).2 := by
  have h0 := rn_took x 1024
  have hl := rn_lo x 1024
  have e : (((esP x).1.length : Nat) : Int) = (rn x 1024).1 := by unfold esP; rw [esR_len]; omega
  rw [e]
  have := h0.trans (esR_took (rn x 1024).2 (rn x 1024).1.toNat)
  simpa [nums, esP] using this
theorem nosR_full (x : RS) (k : Nat) (h : (nosR x k).2.2.2 = false) : (nosR x k).1.length = k := by
  induction k with
  | zero => rfl
  | succ k ih =>
    simp only [nosR] at h ⊢
    split at h
    · simp [fl] at h
    · rename_i hb
      have ht := noR_took (nosR x k).2.2 h
      obtain ⟨h1, h2, h3, h4⟩ := nosR_good x k ht.1
      have hfresh : (noR (nosR x k).2.2).1.1 ∉ keys (nosR x k).1 := fun hm => by have := h2 _ hm; omega
      rw [length_mput, if_neg hfresh, ih ht.1]
theorem nosP_took (x : RS) (h : (nosP x).2.2 = false) : x.2 = false ∧ x.1 = nums [((nosP x).1.length : Int)] ++ (normZ (nosP x).1).flatMap nosB ++ (nosP x).2.1 := by
  have hl := rn_lo x 1024
  unfold nosP at h ⊢
  simp only at h ⊢
  obtain ⟨h1, h2, h3, h4⟩ := nosR_good _ _ h
  obtain ⟨h5, h6⟩ := rn_took x 1024 h3
  refine ⟨h5, ?_⟩
  rw [normZ_asc h1, nosR_full _ _ h]
  have e : (((rn x 1024).1.toNat : Nat) : Int) = (rn x 1024).1 := by omega
  rw [e, h6, h4]
  simp [nums]
theorem readB_lay (s : List UInt8) (B : BookT) (h : readB (s, false) = (B, ([], false))) : layW B = s := by
  unfold readB at h
  simp only [Prod.mk.injEq] at h
  obtain ⟨h1, h2⟩ := h
  rw [h2] at h1
  simp only [Bool.false_eq_true, if_false] at h1
  have hc := nosP_took (esP (wsP (s, false)).2).2 (by rw [h2])
  have hb := esP_took (wsP (s, false)).2 hc.1
  have ha := wsP_took (s, false) hb.1
  rw [← h1]
  unfold layW
  simp only
  have e := ha.2
  rw [hb.2, hc.2, h2] at e
  simp only [List.append_nil] at e
  refine Eq.trans ?_ e.symm
  simp only [List.append_assoc]
theorem readB_len (x : RS) : (readB x).1.ws.length ≤ 40 ∧ (readB x).1.es.length ≤ 1024 ∧ (readB x).1.nos.length ≤ 1024 := by
  unfold readB
  simp only
  split
  · simp
  · have h1 := rn_hi x 40 (by decide)
    have h2 := rn_hi (wsP x).2 1024 (by decide)
    have h3 := rn_hi (esP (wsP x).2).2 1024 (by decide)
    have h4 := nosR_len (rn (esP (wsP x).2).2 1024).2 (rn (esP (wsP x).2).2 1024).1.toNat
    refine ⟨?_, ?_, ?_⟩
    · show (wsP x).1.length ≤ 40
      unfold wsP
      rw [wsR_len]
      omega
    · show (esP (wsP x).2).1.length ≤ 1024
      rw [show (esP (wsP x).2).1.length = (rn (wsP x).2 1024).1.toNat from by unfold esP; rw [esR_len]]
      omega
    · show (nosP (esP (wsP x).2).2).1.length ≤ 1024
      have : (nosP (esP (wsP x).2).2).1.length ≤ (rn (esP (wsP x).2).2 1024).1.toNat := h4
      omega
theorem readB_fail (x : RS) (h : (readB x).2.2 = true) : (readB x).1 = ⟨[], [], []⟩ := by
  unfold readB at h ⊢
  simp only at h ⊢
  rw [if_pos h]
end Go.Proofs.YtbfogieeiobpdaaGreatDoor
