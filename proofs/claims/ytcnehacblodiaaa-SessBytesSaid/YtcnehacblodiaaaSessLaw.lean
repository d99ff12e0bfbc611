/- The law SessOnce, walked: whatever numbers and texts come in, it answers true. No condition. -/
import Derived.Test.YtcnehacblodiaaaSess
set_option linter.unusedVariables false
namespace Go.Proofs.Ytcnehacblodiaaa
open Go.RowKit

set_option maxRecDepth 100000 in
theorem head_sess (w : World) : Calls Try.prog 7 #[] w fun e w' => e = .returned (.bool true) ∧ Keeps (fun _ => False) w w' := by
  go_enter Try.func7, Try.ntmps7
  go_wp2_with fail
  refine (new_sess w).mono ?_
  rintro e w1 ⟨t, mb, rfl, hT, ht, hmb, hk⟩
  have HT := hide hT
  have HK := hide hk
  clear hT hk
  go_wp2_with fail
  refine (open_sess _ _ _ _ _ HT.out).mono ?_
  rintro e w2 ⟨rfl, hT, hk2⟩
  replace hT : Tb w2 t mb [(5, (0, []))] := hT
  replace HK := hide (HK.out.trans hk2 (fun i hi e => by omega))
  replace HT := hide hT
  clear hT hk2
  go_wp2_with fail
  refine (keep_sess _ _ _ _ _ _ [120] (by simp) HT.out).mono ?_
  rintro e w3 ⟨rfl, hT, hk2⟩
  replace hT : Tb w3 t mb [(5, (1, [120]))] := hT
  replace HK := hide (HK.out.trans hk2 (fun i hi e => by omega))
  replace HT := hide hT
  clear hT hk2
  go_wp2_with fail
  refine (seen_sess _ _ _ _ _ _ HT.out).mono ?_
  rintro e w4 ⟨rfl, hk2⟩
  replace HK := hide (HK.out.trans' hk2)
  replace HT := hide (HT.out.kept hk2 (fun h => h) (fun h => h))
  clear hk2
  go_wp2_with fail
  refine (seen_sess _ _ _ _ _ _ HT.out).mono ?_
  rintro e w5 ⟨rfl, hk2⟩
  replace HK := hide (HK.out.trans' hk2)
  clear hk2 HT
  go_wp2_with fail
  go_ret
  exact ⟨rfl, HK.out⟩

/-- what Seen says of a session that is known -/
theorem seen_of {m : Tab} {id last : Int} {text : List UInt8} (h : mget m id = some (last, text)) (req : Int) (h1 : 1 ≤ req) (h2 : req ≤ 281474976710655) :
    seenF m id req = if req < last then ([], false, 18) else if req = last then (text, true, 0) else ([], false, 0) := by
  unfold seenF
  rw [h]
  simp only
  rw [if_neg (by omega)]
theorem keep_of {m : Tab} {id last : Int} {text : List UInt8} (h : mget m id = some (last, text)) (req : Int) (a : List UInt8) (h2 : req ≤ 281474976710655) (ha : a.length ≤ 400) :
    keepF m id req a = if req < 1 then (1, m) else if req ≤ last then (18, m) else (0, mput m id (req, a)) := by
  unfold keepF
  by_cases h1 : req < 1
  · have : seenF m id req = ([], false, 1) := by simp [seenF, h, h1]
    rw [this, if_pos h1]
    simp
  · rw [seen_of h req (by omega) h2]
    by_cases h3 : req < last
    · simp [h1, h3, show req ≤ last from by omega]
    · by_cases h4 : req = last
      · simp [h4, show 1 ≤ last from by omega]
      · simp [h1, h3, h4, show ¬ req ≤ last from by omega, show ¬ 400 < a.length from by omega]

/-- the text of the i-th request -/
def nth (ss : List (List UInt8)) (i : Nat) : List UInt8 := ss.getD i []


end Go.Proofs.Ytcnehacblodiaaa
