/- The statement ClusterNew: known functions, arguments by their low bits, and the runs that end soon. No condition. -/
import Derived.Test.YtegafdkhbgojcaaGreatDoorEH19
import Derived.Test.YtegafdkhbgojcaaGreatDoorES
set_option linter.unusedVariables false
set_option maxRecDepth 100000
namespace Go.Proofs.YtegafdkhbgojcaaGreatDoor.Ek
open Go.Proofs.YtegafdkhbgojcaaGreatDoor.Ex
noncomputable def natC (f : Nat) : Option Native := bif Nat.beq f 40 then some nTrue else natives f
theorem natC_ok {X : Nat → Value} {W : World} {Z0 : Nat → Option Obj} (hz : ∀ B o, W.heap[B]? = some o → Z0 B = some o) : ∀ f n, natC f = some n → NatOk X Tryz.prog W Z0 f n := by
  intro f n h
  unfold natC at h
  cases h1 : Nat.beq f 40 with
  | true =>
    rw [h1] at h
    injection h with h
    rw [Nat.eq_of_beq_eq_true h1, ← h]
    exact nTrue_ok (enters Tryz.func40 rfl) h19_calls
  | false =>
    rw [h1] at h
    exact natives_ok f n h
/-- an argument of which the low bits are known -/
def cod (a m j : Nat) : Nat := 1000 + 8 * (32 * a + m) + j
/-- two numbers of which low bits are known, and one more -/
def XN (r s m m' : Nat) (zn zc c : Int) (n : Nat) : Value := if n = cod r m 0 then .int .i64 zn else if n = cod s m' 1 then .int .i64 zc else if n = 7 then .int .i64 c else X0 n
theorem resM_cod {a m j : Nat} (hm : m < 32) (hj : j < 8) : resM (cod a m j) = m := by
  show (cod a m j - 1000) / 8 % 32 = m
  unfold cod; omega
theorem resR_cod {a m j : Nat} (hm : m < 32) (hj : j < 8) (ha : a < 2 ^ m) : resR (cod a m j) = a := by
  show (cod a m j - 1000) / 256 % 2 ^ resM (cod a m j) = a
  rw [resM_cod hm hj]
  have : (cod a m j - 1000) / 256 = a := by unfold cod; omega
  rw [this, Nat.mod_eq_of_lt ha]
theorem XN_ok {r s m m' : Nat} {zn zc c : Int} (hm : m < 32) (hm' : m' < 32) (hr : r < 2 ^ m) (hs : s < 2 ^ m') (h1 : zn % (2 ^ m : Nat) = (r : Int)) (h2 : zc % (2 ^ m' : Nat) = (s : Int)) : XOk (XN r s m m' zn zc c) := by
  refine ⟨fun n => ?_, fun n hn => ?_⟩
  · unfold XN
    split
    · rfl
    · split
      · rfl
      · split
        · rfl
        · exact X0_ok.one n
  · by_cases e1 : n = cod r m 0
    · subst e1
      exact ⟨zn, by unfold XN; rw [if_pos rfl], by rw [resM_cod hm (by omega), resR_cod hm (by omega) hr]; exact h1⟩
    · by_cases e2 : n = cod s m' 1
      · subst e2
        exact ⟨zc, by unfold XN; rw [if_neg e1, if_pos rfl], by rw [resM_cod hm' (by omega), resR_cod hm' (by omega) hs]; exact h2⟩
      · have e3 : XN r s m m' zn zc c n = X0 n := by unfold XN; rw [if_neg e1, if_neg e2, if_neg (by omega)]
        rw [e3]; exact X0_ok.res n hn
theorem XN_args {r s m m' : Nat} (zn zc c : Int) {ρ : Rho} : VRs (XN r s m m' zn zc c) ρ [.x (cod r m 0), .x (cod s m' 1)] #[Value.int .i64 zn, .int .i64 zc].toList := by
  refine VRs_cons.2 ⟨_, _, rfl, ?_, VRs_cons.2 ⟨_, _, rfl, ?_, VRs_nil.2 rfl⟩⟩
  · show Value.int .i64 zn = XN r s m m' zn zc c (cod r m 0)
    unfold XN; rw [if_pos rfl]
  · show Value.int .i64 zc = XN r s m m' zn zc c (cod s m' 1)
    unfold XN; rw [if_neg (by unfold cod; omega), if_pos rfl]
theorem XN_7 {r s m m' : Nat} {zn zc c : Int} : XN r s m m' zn zc c 7 = .int .i64 c := by
  unfold XN; rw [if_neg (by unfold cod; omega), if_neg (by unfold cod; omega), if_pos rfl]
/-- a test of all numbers below one -/
noncomputable def allB (p : Nat → Bool) (n : Nat) : Bool := Nat.rec (motive := fun _ => Bool) true (fun k ih => andB (p k) ih) n
theorem allB_ok {p : Nat → Bool} {n : Nat} (h : allB p n = true) : ∀ k, k < n → p k = true := by
  induction n with
  | zero => intro k hk; omega
  | succ n ih =>
    obtain ⟨h1, h2⟩ := andB_t.1 (show andB (p n) (allB p n) = true from h)
    intro k hk
    by_cases e : k = n
    · rw [e]; exact h1
    · exact ih h2 k (by omega)
/-- where ClusterNew begins -/
def cn0 (r s : Nat) : LSt := .mk 8 [.c []] (argL [.x (cod r 4 0), .x (cod s 5 1)] 0) [] 0 []
noncomputable def cnQ (s r : Nat) : Bool := goL Tryz.prog (nthN masks) (run Tryz.prog natC (nthN masks) (fun _ => false) (finL (.b true) []) 8000) (cn0 r s)
theorem cnq0 : allB (fun s => cnQ s 0) 32 = true := by kernel_rfl
theorem cnq1 : allB (fun s => cnQ s 1) 32 = true := by kernel_rfl
theorem cnq2 : allB (fun s => cnQ s 2) 32 = true := by kernel_rfl
theorem cnq3 : allB (fun s => cnQ s 3) 32 = true := by kernel_rfl
theorem cnq4 : allB (fun s => cnQ s 4) 32 = true := by kernel_rfl
theorem cnq6 : allB (fun s => cnQ s 6) 32 = true := by kernel_rfl
theorem cnq8 : allB (fun s => cnQ s 8) 32 = true := by kernel_rfl
theorem cnq10 : allB (fun s => cnQ s 10) 32 = true := by kernel_rfl
theorem cnq11 : allB (fun s => cnQ s 11) 32 = true := by kernel_rfl
theorem cnq12 : allB (fun s => cnQ s 12) 32 = true := by kernel_rfl
theorem cnq13 : allB (fun s => cnQ s 13) 32 = true := by kernel_rfl
theorem cnq14 : allB (fun s => cnQ s 14) 32 = true := by kernel_rfl
theorem cnq15 : allB (fun s => cnQ s 15) 32 = true := by kernel_rfl

end Go.Proofs.YtegafdkhbgojcaaGreatDoor.Ek
