/- Known functions for the statement on clients that wait. No condition. -/
import Derived.Test.YtegafdkhbgojcaaGreatDoorEH18
import Derived.Test.YtegafdkhbgojcaaGreatDoorFewD
set_option linter.unusedVariables false
set_option linter.unusedSimpArgs false
namespace Go.Proofs.YtegafdkhbgojcaaGreatDoor.Ek
open Go.Proofs.YtegafdkhbgojcaaGreatDoor.Ex
noncomputable def cA : AV := .ag [.x 0, .x 1, .x 2, .x 3, .x 4, .x 5, .x 6, .x 7]
noncomputable def cB : AV := .ag [.x 8, .x 9, .x 10, .x 11, .x 12, .x 13, .x 14, .x 15]
noncomputable def nFew (b c : Bool) : Native := fun xs _ _ => match xs with | [v] => bif exV v cA then .v (.b b) else bif exV v cB then .v (.b c) else .bad | _ => .bad
noncomputable def natW (b c : Bool) (f : Nat) : Option Native := bif Nat.beq f 26 then some nTrue else bif Nat.beq f 28 then some (nFew b c) else natives f
/-- two commands' cells -/
def XW (c d : Array Value) (n : Nat) : Value := if n < 8 then c.getD n (.bool false) else if n < 16 then d.getD (n - 8) (.bool false) else X0 n
theorem getD_one {c : Array Value} (hc : ∀ v ∈ c.toList, v.oneCell' = true) (n : Nat) : (c.getD n (.bool false)).oneCell' = true := by
  rw [Array.getD_eq_getD_getElem?]
  cases h : c[n]? with
  | none => rfl
  | some v => exact hc v (by have := Array.mem_of_getElem? h; simpa using this)
theorem XW_ok {c d : Array Value} (hc : ∀ v ∈ c.toList, v.oneCell' = true) (hd : ∀ v ∈ d.toList, v.oneCell' = true) : XOk (XW c d) := by
  refine ⟨fun n => ?_, fun n hn => ?_⟩
  · unfold XW
    split
    · exact getD_one hc n
    · split
      · exact getD_one hd _
      · exact X0_ok.one n
  · have : XW c d n = X0 n := by unfold XW; rw [if_neg (by omega), if_neg (by omega)]
    rw [this]; exact X0_ok.res n hn
/-- all that was there is there, and more is kept -/
theorem keeps_of_HR' {X : Nat → Value} {w w' : World} {Z : Nat → Option Obj} (hz : ∀ B o, w.heap[B]? = some o → Z B = some o) {ρ : Rho} {h : Nat → Option AB} (H : HR X w Z ρ h w') : Keeps (fun _ => False) w w' := by
  refine ⟨H.os, H.tape, H.output, ?_, fun k hk _ => ?_⟩
  · cases hn : w.heap.size with
    | zero => exact Nat.zero_le _
    | succ n =>
      have h1 : w.heap[n]? = some w.heap[n] := Array.getElem?_eq_getElem (by omega)
      have h2 := H.ext n _ (hz n _ h1)
      have := (Array.getElem?_eq_some_iff.1 h2).1
      omega
  · have h1 : w.heap[k]? = some w.heap[k] := Array.getElem?_eq_getElem hk
    rw [h1]; exact H.ext k _ (hz k _ h1)
theorem cells_cA {c d : Array Value} (hc : c.size = 8) {ρ : Rho} {y : Value} (hv : VR (XW c d) ρ cA y) : y = .agg c := by
  obtain ⟨a, rfl, ha⟩ := hv
  obtain ⟨l⟩ := c
  match l, hc with
  | [c0, c1, c2, c3, c4, c5, c6, c7], _ =>
    obtain ⟨a⟩ := a
    simp only [VRs_cons, VRs_nil, VR] at ha
    obtain ⟨_, _, rfl, rfl, _, _, rfl, rfl, _, _, rfl, rfl, _, _, rfl, rfl, _, _, rfl, rfl, _, _, rfl, rfl, _, _, rfl, rfl, _, _, rfl, rfl, rfl⟩ := ha
    rfl
theorem cells_cB {c d : Array Value} (hd : d.size = 8) {ρ : Rho} {y : Value} (hv : VR (XW c d) ρ cB y) : y = .agg d := by
  obtain ⟨a, rfl, ha⟩ := hv
  obtain ⟨l⟩ := d
  match l, hd with
  | [c0, c1, c2, c3, c4, c5, c6, c7], _ =>
    obtain ⟨a⟩ := a
    simp only [VRs_cons, VRs_nil, VR] at ha
    obtain ⟨_, _, rfl, rfl, _, _, rfl, rfl, _, _, rfl, rfl, _, _, rfl, rfl, _, _, rfl, rfl, _, _, rfl, rfl, _, _, rfl, rfl, _, _, rfl, rfl, rfl⟩ := ha
    rfl
theorem nFew_ok {w : World} {c d : Array Value} (hc : c.size = 8) (hd : d.size = 8) {b1 b2 : Bool} (h1 : ∀ w1, Keeps (fun _ => False) w w1 → Calls Tryz.prog 28 #[.agg c] w1 fun e w' => e = .returned (.bool b1) ∧ Keeps (fun _ => False) w1 w')
    (h2 : ∀ w1, Keeps (fun _ => False) w w1 → Calls Tryz.prog 28 #[.agg d] w1 fun e w' => e = .returned (.bool b2) ∧ Keeps (fun _ => False) w1 w') : NatOk (XW c d) Tryz.prog w (fun B => w.heap[B]?) 28 (nFew b1 b2) := by
  intro Z ρ h w1 nx xs args hz H hid hv hb hc'
  unfold nFew at hb ⊢
  split at hb
  · rename_i v
    obtain ⟨y, l0, e1, g1, g2⟩ := VRs_cons.1 hv
    have g2 := VRs_nil.1 g2
    subst g2
    have ha : args = #[y] := by cases args; simpa using e1
    subst ha
    have hk := keeps_of_HR' hz H
    cases hA : exV v cA with
    | true =>
      have e := exV_eq _ _ hA
      subst e
      rw [cells_cA hc g1]
      refine .inr ⟨enters Tryz.func28 rfl _ _, (h1 w1 hk).mono ?_⟩
      rintro e w' ⟨rfl, hkp⟩
      exact ⟨.b b1, h, ρ, .inl ⟨rfl, rfl⟩, Ext.refl _, fun _ _ => rfl, H.keeps hkp, rfl⟩
    | false =>
      rw [hA] at hb
      simp only [cond_false] at hb ⊢
      cases hB : exV v cB with
      | true =>
        have e := exV_eq _ _ hB
        subst e
        rw [cells_cB hd g1]
        refine .inr ⟨enters Tryz.func28 rfl _ _, (h2 w1 hk).mono ?_⟩
        rintro e w' ⟨rfl, hkp⟩
        exact ⟨.b b2, h, ρ, .inl ⟨rfl, rfl⟩, Ext.refl _, fun _ _ => rfl, H.keeps hkp, rfl⟩
      | false => rw [hB] at hb; exact absurd rfl hb
  · exact absurd rfl hb
theorem natW_ok {w : World} {c d : Array Value} {b1 b2 : Bool} (hf : NatOk (XW c d) Tryz.prog w (fun B => w.heap[B]?) 28 (nFew b1 b2)) : ∀ f n, natW b1 b2 f = some n → NatOk (XW c d) Tryz.prog w (fun B => w.heap[B]?) f n := by
  intro f n h
  unfold natW at h
  cases h1 : Nat.beq f 26 with
  | true =>
    rw [h1] at h
    injection h with h
    rw [Nat.eq_of_beq_eq_true h1, ← h]
    exact nTrue_ok (enters Tryz.func26 rfl) h18_calls
  | false =>
    rw [h1] at h
    cases h2 : Nat.beq f 28 with
    | true =>
      rw [h2] at h
      injection h with h
      rw [Nat.eq_of_beq_eq_true h2, ← h]
      exact hf
    | false =>
      rw [h2] at h
      exact natives_ok f n h
end Go.Proofs.YtegafdkhbgojcaaGreatDoor.Ek
