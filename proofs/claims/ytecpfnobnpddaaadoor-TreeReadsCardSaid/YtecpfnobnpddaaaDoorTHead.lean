/- The document's example for the package tree; Create as the laws use it. No condition. -/
import Derived.Test.YtecpfnobnpddaaaDoorTreeC
import Derived.Test.YtecpfnobnpddaaaDoorTQuo
set_option linter.unusedVariables false
set_option linter.unusedSimpArgs false
namespace Go.Proofs.YtecpfnobnpddaaaDoor
open Go.RowKit

theorem GL.at {g w : World} {L : List Asn} (hG : GL g) (S0 : Sat g w L) (hm : oldA g ∈ L) : GL w := hG.keep (S0.keepsOf hm) (fun h => by
  obtain ⟨m, hm⟩ := hG
  have := World.block_lt_of_cell? g _ hm
  exact Nat.lt_irrefl _ (Nat.lt_of_lt_of_le this h))

/-- counters that stay small -/
def NodesOk (T : TreeT) : Prop := ∀ p ∈ T, 0 ≤ p.2.serial ∧ p.2.serial < 100 ∧ 0 ≤ p.2.below ∧ p.2.below ≤ 1000000
theorem create_eq {g w : World} {L : List Asn} {b : Nat} {T : TreeT} (S0 : Sat g w (treeA b T :: L)) (hG : GL w) (hN : NodesOk T) (s data : List UInt8) (owner when_ : Int) (serial : Bool) {x : List UInt8} {r : Int} {T' : TreeT}
    (h : createF T s data owner when_ serial = (x, r, T')) (hs : s.length ≤ 140737488350000) (hd : data.length ≤ 140737488350000) (hT : T.length ≤ 1000000) :
    Calls Tryd.prog 12 #[ptr b, .string (S s), .string (S data), .int .i64 owner, .int .i64 when_, .bool serial] w fun e w' => e = .returned (.tuple #[.string (S x), .int .i64 r]) ∧ Sat g w' (treeA b T' :: L) := by
  have := create_tree S0 hG s data owner when_ serial hs hd hT (fun a ha => hN _ (mget_mem ha))
  rw [h] at this
  exact this

set_option maxRecDepth 100000 in
set_option maxHeartbeats 2000000 in
theorem head_tree {g w : World} {L : List Asn} (S0 : Sat g w L) (hG : GL g) (hm : oldA g ∈ L) :
    Calls Tryd.prog 10 #[] w fun e w' => e = .returned (.bool true) ∧ Sat g w' L := by
  have h0 : hK 0 = [47, 97, 47, 110, 48, 48, 48, 48, 48, 48, 48, 48, 48, 48] := by decide
  have h1 : hK 1 = [47, 97, 47, 110, 48, 48, 48, 48, 48, 48, 48, 48, 48, 49] := by decide
  go_enter Tryd.func10, Tryd.ntmps10
  go_wp2_with fail
  refine (new_tree S0).mono ?_
  rintro e w1 ⟨t, rfl, S1⟩
  go_wp2_with fail
  refine (create_eq S1 (hG.at S1 (by simp [hm])) (by intro p hp; simp at hp; subst hp; decide) [47, 97] [] 0 1 false ex_one (by decide) (by decide) (by decide)).mono ?_
  rintro e w2 ⟨rfl, S2⟩
  go_wp2_with fail
  refine (create_eq S2 (hG.at S2 (by simp [hm])) (by unfold NodesOk; decide) [47, 97, 47, 110] [] 0 2 true ex_two (by decide) (by decide) (by decide)).mono ?_
  rintro e w3 ⟨rfl, S3⟩
  go_wp2_with fail
  refine (create_eq S3 (hG.at S3 (by simp [hm])) (by unfold NodesOk; decide) [47, 97, 47, 110] [] 0 3 true ex_three (by decide) (by decide) (by decide)).mono ?_
  rintro e w4 ⟨rfl, S4⟩
  rw [h1]
  have HS := hide S4.drop
  clear S1 S2 S3 S4 S0 h0 h1
  go_wp2_with fail
  go_ret
  exact ⟨rfl, HS.out⟩
end Go.Proofs.YtecpfnobnpddaaaDoor
