/- The statements' own model of a table of sessions: an act of both. No condition. -/
import Derived.Test.YtcnehacblodiaaaModel
import Derived.Test.YtcnehacblodiaaaFull
import Derived.StillTailTactics
set_option linter.unusedVariables false
namespace Go.Proofs.Ytcnehacblodiaaa
open Go.RowKit

theorem slE : Sl Try.prog 34 54 3 32 (.agg #[.int .i64 0, .int .i64 0, .string ⟨#[]⟩]) := Sl.mk' Try.underlying34 (by kernel_rfl) rfl (by decide)

/-! ### plain -/
def insT (l : Tab) (id : Int) : Tab := (l.takeWhile fun p => decide (p.1 < id)) ++ [(id, (0, []))] ++ l.dropWhile fun p => decide (p.1 < id)
def doM (kd : Int) (m : Tab) (id req : Int) (a : List UInt8) : Tab :=
  if kd = 0 then (openF m id).2 else if kd = 1 then (closeF m id).2 else if kd = 2 ∨ kd = 3 then (keepF m id req a).2 else m
def doL (kd : Int) (l : Tab) (id req : Int) (a : List UInt8) : Tab :=
  if kd = 0 then (if (openF l id).1 = 0 then insT l id else l) else if kd = 1 then (if (closeF l id).1 = 0 then l.take (atF l id).toNat ++ l.drop ((atF l id).toNat + 1) else l) else if kd = 2 ∨ kd = 3 then (if (keepF l id req a).1 = 0 then l.set (atF l id).toNat (id, (req, a)) else l) else l
def doB (kd : Int) (l m : Tab) (id req : Int) (a : List UInt8) : Bool :=
  if kd = 0 then (openF m id).1 == (openF l id).1 else if kd = 1 then (closeF m id).1 == (closeF l id).1 else if kd = 2 ∨ kd = 3 then (keepF m id req a).1 == (keepF l id req a).1 else decide (seenF m id req = seenF l id req)
theorem insT_at {l : Tab} {id : Int} {k : Nat} (h1 : ∀ q ∈ l.take k, q.1 < id) (h2 : ∀ p, l[k]? = some p → ¬ p.1 < id) : insT l id = l.take k ++ [(id, (0, []))] ++ l.drop k := by
  have e : l = l.take k ++ l.drop k := (List.take_append_drop k l).symm
  have ht : l.takeWhile (fun p => decide (p.1 < id)) = l.take k ∧ l.dropWhile (fun p => decide (p.1 < id)) = l.drop k := by
    have h3 : ∀ q ∈ l.take k, (fun p : Int × Ses => decide (p.1 < id)) q = true := fun q hq => by simpa using h1 q hq
    have hd : ∀ d : Tab, (∀ p, d.head? = some p → ¬ p.1 < id) → d.takeWhile (fun p => decide (p.1 < id)) = [] ∧ d.dropWhile (fun p => decide (p.1 < id)) = d := by
      intro d hd
      cases d with
      | nil => simp
      | cons x r =>
        have := hd x rfl
        simp [this]
    have h4 := hd (l.drop k) (fun p hp => h2 p (by rw [List.head?_drop] at hp; exact hp))
    constructor
    · conv => lhs; rw [e]
      rw [List.takeWhile_append_of_pos h3, h4.1, List.append_nil]
    · conv => lhs; rw [e]
      rw [List.dropWhile_append_of_pos h3, h4.2]
  unfold insT
  rw [ht.1, ht.2]

theorem flatE_take (l : Tab) (k : Nat) : (l.flatMap entC).take (k * 3) = (l.take k).flatMap entC := by
  induction l generalizing k with
  | nil => simp
  | cons p r ih =>
    cases k with
    | zero => simp
    | succ k =>
      rw [List.take_succ_cons, List.flatMap_cons, List.flatMap_cons, ← ih, Nat.succ_mul]
      simp [entC, List.take_succ_cons]
theorem flatE_drop (l : Tab) (k : Nat) : (l.flatMap entC).drop (k * 3) = (l.drop k).flatMap entC := by
  induction l generalizing k with
  | nil => simp
  | cons p r ih =>
    cases k with
    | zero => simp
    | succ k =>
      rw [List.drop_succ_cons, List.flatMap_cons, ← ih, Nat.succ_mul]
      simp [entC, List.drop_succ_cons]
theorem oneE (l : Tab) : ∀ u ∈ l.flatMap entC, u.oneCell' = true := by
  intro u hu
  simp only [List.mem_flatMap] at hu
  obtain ⟨p, _, hp⟩ := hu
  simp only [entC, List.mem_cons, List.not_mem_nil, or_false] at hp
  rcases hp with rfl | rfl | rfl <;> rfl
theorem Src.zero {w : World} {size : Nat} {A : Option Addr} {n : Nat} {xs : List Value} (hn : n = 0) (hx : xs = []) : Src w size A n xs := by
  subst hn hx
  exact ⟨by simp, fun h => by omega⟩

section
variable {g w : World} {L : List Asn} {t mb : Nat} {m : Tab}
theorem s_open (S : Sat g w (boxA t mb :: tabA mb m :: L)) (id : Int) :
    Calls Try.prog 9 #[ptr t, .int .i64 id] w fun e w' => e = .returned (.int .i64 (openF m id).1) ∧ Sat g w' (boxA t mb :: tabA mb (openF m id).2 :: L) := by
  refine (open_sess w t mb m id S.tb).mono ?_
  rintro e w' ⟨rfl, hT, hk⟩
  exact ⟨rfl, S.tbPut hk hT⟩
theorem s_close (S : Sat g w (boxA t mb :: tabA mb m :: L)) (id : Int) :
    Calls Try.prog 11 #[ptr t, .int .i64 id] w fun e w' => e = .returned (.int .i64 (closeF m id).1) ∧ Sat g w' (boxA t mb :: tabA mb (closeF m id).2 :: L) := by
  refine (close_sess w t mb m id S.tb).mono ?_
  rintro e w' ⟨rfl, hT, hk⟩
  exact ⟨rfl, S.tbPut hk hT⟩
theorem s_keep (S : Sat g w (boxA t mb :: tabA mb m :: L)) (id req : Int) (a : List UInt8) (ha : a.length ≤ 9223372036854775807) :
    Calls Try.prog 18 #[ptr t, .int .i64 id, .int .i64 req, .string (Go.Proofs.Ytcnehacblodiaaa.S a)] w fun e w' => e = .returned (.int .i64 (keepF m id req a).1) ∧ Sat g w' (boxA t mb :: tabA mb (keepF m id req a).2 :: L) := by
  refine (keep_sess w t mb m id req a ha S.tb).mono ?_
  rintro e w' ⟨rfl, hT, hk⟩
  exact ⟨rfl, S.tbPut hk hT⟩
theorem s_seen (S : Sat g w (boxA t mb :: tabA mb m :: L)) (id req : Int) :
    Calls Try.prog 17 #[ptr t, .int .i64 id, .int .i64 req] w fun e w' => e = .returned (seenV (seenF m id req)) ∧ Sat g w' (boxA t mb :: tabA mb m :: L) := by
  refine (seen_sess w t mb m id req S.tb).mono ?_
  rintro e w' ⟨rfl, hk⟩
  exact ⟨rfl, S.keep hk⟩
theorem s_has (S : Sat g w (boxA t mb :: tabA mb m :: L)) (id : Int) :
    Calls Try.prog 10 #[ptr t, .int .i64 id] w fun e w' => e = .returned (.bool (decide (id ∈ keys m))) ∧ Sat g w' (boxA t mb :: tabA mb m :: L) := by
  refine (has_sess w t mb m id S.tb).mono ?_
  rintro e w' ⟨rfl, hk⟩
  exact ⟨rfl, S.keep hk⟩
end

end Go.Proofs.Ytcnehacblodiaaa
