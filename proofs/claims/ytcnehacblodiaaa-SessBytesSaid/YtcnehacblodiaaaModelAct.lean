/- The statements' own model of a table of sessions: an act of both, of whatever kind; the two in step. No condition. -/
import Derived.Test.YtcnehacblodiaaaModelDo0
import Derived.Test.YtcnehacblodiaaaModelDo1
import Derived.Test.YtcnehacblodiaaaModelDo2
import Derived.Test.YtcnehacblodiaaaModelDo4
set_option linter.unusedVariables false
namespace Go.Proofs.Ytcnehacblodiaaa
open Go.RowKit

theorem s_do {g w : World} {L : List Asn} {t mb mp : Nat} {A : Option Addr} {cap : Nat} {l m : Tab} (S : Sat g w (mboxA mp l A cap :: mrowA l A cap :: boxA t mb :: tabA mb m :: L)) (hl : l.length ≤ 16) (ak id req : Int) (ans : List UInt8) (ha : ans.length ≤ 9223372036854775807) :
    Calls Try.prog 14 #[ptr mp, ptr t, .agg #[.int .i64 ak, .int .i64 id, .int .i64 req, .string (Go.Proofs.Ytcnehacblodiaaa.S ans)]] w fun e w' => ∃ (kd : Int) (A' : Option Addr) (cap' : Nat), e = .returned (.bool (doB kd l m id req ans)) ∧ Sat g w' (mboxA mp (doL kd l id req ans) A' cap' :: mrowA (doL kd l id req ans) A' cap' :: boxA t mb :: tabA mb (doM kd m id req ans) :: L) := by
  by_cases h0 : wrap64 ((IntKind.u64.wrap ak).tmod 5) = 0
  · exact (s_do0 S hl ak id req ans ha h0).mono fun e w' ⟨A', c', h⟩ => ⟨0, A', c', h⟩
  · by_cases h1 : wrap64 ((IntKind.u64.wrap ak).tmod 5) = 1
    · exact (s_do1 S hl ak id req ans ha h1).mono fun e w' ⟨A', c', h⟩ => ⟨1, A', c', h⟩
    · by_cases h2 : wrap64 ((IntKind.u64.wrap ak).tmod 5) = 2
      · exact (s_do2 S hl ak id req ans ha 2 (.inl rfl) h2).mono fun e w' ⟨A', c', h⟩ => ⟨2, A', c', h⟩
      · by_cases h3 : wrap64 ((IntKind.u64.wrap ak).tmod 5) = 3
        · exact (s_do2 S hl ak id req ans ha 3 (.inr rfl) h3).mono fun e w' ⟨A', c', h⟩ => ⟨3, A', c', h⟩
        · exact (s_do4 S hl ak id req ans ha (fun j j0 j3 e => by
            have : j = 0 ∨ j = 1 ∨ j = 2 ∨ j = 3 := by omega
            rcases this with rfl | rfl | rfl | rfl
            · exact h0 e
            · exact h1 e
            · exact h2 e
            · exact h3 e)).mono fun e w' ⟨A', c', h⟩ => ⟨_, A', c', h⟩

end Go.Proofs.Ytcnehacblodiaaa
