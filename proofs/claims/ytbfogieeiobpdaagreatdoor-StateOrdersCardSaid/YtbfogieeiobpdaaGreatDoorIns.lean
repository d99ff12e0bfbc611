/- slices.Insert of one watch. No condition. -/
import Derived.Test.YtbfogieeiobpdaaGreatDoorInsR
set_option linter.unusedVariables false
set_option linter.unusedSimpArgs false
namespace Go.Proofs.YtbfogieeiobpdaaGreatDoor
open Go.RowKit

theorem ins_watch {g w : World} {L : List Asn} {v : Value} {ws : List WatT} {vb : Nat} {x : WatT} (S : Sat g w (cellsA vb 96 (watC x).toArray :: rowA 96 4 v ws.length (ws.flatMap watC) :: L)) (i : Nat) (hi : i ≤ ws.length) (hl : ws.length ≤ 1000) :
    Calls Tryz.prog 81 #[v, .int .i64 i, .slice (some ⟨vb, 0, none⟩) 1 1] w fun e w' =>
      ∃ v', e = .returned v' ∧ Sat g w' (rowA 96 4 v' (ws.length + 1) ((ws.take i ++ [x] ++ ws.drop i).flatMap watC) :: L) := by
  obtain ⟨A, c, rfl, hnc, hcm, -⟩ := S.p1.row.form
  have hxs : (ws.take i ++ [x] ++ ws.drop i).flatMap watC = (ws.flatMap watC).take (i * 4) ++ watC x ++ (ws.flatMap watC).drop (i * 4) := by
    rw [flatK_take (f := watC) (n := 4) (fun _ => rfl), flatK_drop (f := watC) (n := 4) (fun _ => rfl), List.flatMap_append, List.flatMap_append]
    simp
  have hxl : (ws.flatMap watC).length = ws.length * 4 := flatK_len (f := watC) (n := 4) (fun _ => rfl) ws
  have h1 := flatK_one watC_one ws
  have h2 := watC_one x
  have hc4 : (watC x).length = 4 := rfl
  have hcm' : c ≤ 9223372036854775807 := by
    unfold maxLen at hcm; omega
  rw [hxs]
  cases A with
  | none =>
    by_cases hin : i = ws.length
    · exact ins_end_nil S hxl hc4 h1 h2 hnc hcm' hl hin
    · exfalso
      rcases S.p1.row.2 with h | h
      · omega
      · obtain ⟨_, _, _, h, _⟩ := h
        cases h
  | some ad =>
    by_cases hin : i = ws.length
    · by_cases hci : i = c
      · exact ins_end_full S hxl hc4 h1 h2 hnc hcm' hl hin hci
      · exact ins_end_part S hxl hc4 h1 h2 hnc hcm' hl hin (fun h => hci h.symm)
    · by_cases hroom : c < ws.length + 1
      · exact ins_mid_grow S hxl hc4 h1 h2 hnc hcm' hl (by omega) hroom
      · exact ins_mid_room S hxl hc4 h1 h2 hnc hcm' hl (by omega) (by omega)

end Go.Proofs.YtbfogieeiobpdaaGreatDoor
