/- The document's example of layer 13, walked. No condition. -/
import Derived.Test.YthgiamofndhehaaGreatDoorStAcc
set_option linter.unusedVariables false
set_option linter.unusedSimpArgs false
namespace Go.Proofs.YthgiamofndhehaaGreatDoor
open Go.RowKit

/-- the text of a command of one operation, whose row is a block -/
theorem s_text1 {g w : World} {L : List Asn} (o : OpT) {ob : Nat} {cs : Array Value} (S0 : Sat g w (cellsA ob 103 cs :: L)) (hcs : cs = (opC o).toArray) (ss rq : Int) (hp : o.path.length ≤ 1000) (hd : o.data.length ≤ 1000) :
    Calls Tryz.prog 30 #[cmdV (madeF ss rq [o]) (some ⟨ob, 0, none⟩) 1] w fun e w' => e = .returned (.string (S (bytesF (madeF ss rq [o])).1)) ∧ Sat g w' (cellsA ob 103 cs :: L) := by
  subst hcs
  refine s_textc S0 _ _ _ ?_ ⟨by simp [madeF], by simp [madeF], fun o' ho => ?_⟩
  · have := Src.block S0.cells_get 6 1 rfl
    simpa [OpSrc, madeF] using this
  · simp only [madeF, List.mem_singleton] at ho
    subst ho
    exact ⟨by omega, by omega⟩
/-- an order whose answer is known -/
theorem s_say2 {g w : World} {L : List Asn} {b : Nat} {s s2 : StT} (S0 : Sat g w (stateA b s :: L)) (hG : GL g) (hm : oldA g ∈ L) {k m : Nat} (hr : RunS s k m) (hk : k ≤ 90) (hm2 : m ≤ 800) {c : CmdT} (hc : cmdR c = true) (h1 : c.ops.length ≤ 1) {x1 x2 x4 : Int} {x3 : List OutT} (he : applyC s c = (⟨x1, x2, x3, x4⟩, s2)) :
    Calls Tryz.prog 29 #[ptr b, .string (S (bytesF c).1)] w fun e w' => ∃ A cap, e = .returned (.agg #[.int .i64 x1, .int .i64 x2, .slice A x3.length cap, .int .i64 x4]) ∧ Sat g w' (rowA 129 2 (.slice A x3.length cap) x3.length (x3.flatMap outC) :: stateA b s2 :: L) := by
  have h2 := s_say S0 hG hm hr hk hm2 hc h1
  rw [he] at h2
  exact h2
def opA : OpT := ⟨1, [47, 97], [], -1, false, false⟩
def cmA : CmdT := madeF 1 1 [opA]
def hs1 : StT := (applyC st0 (openC 1)).2
def hs2 : StT := (applyC hs1 cmA).2
def hs3 : StT := (applyC hs2 cmA).2
theorem hs1_eq : applyC st0 (openC 1) = (⟨0, 0, [], 1⟩, hs1) := Prod.ext (by rw [apply_K]; kernel_rfl) rfl
def hs1K : StT := (applyK st0 (openC 1)).2
theorem hs1_K : hs1 = hs1K := by unfold hs1 hs1K; rw [apply_K]
def hs2K : StT := (applyK hs1K cmA).2
theorem hs2_K : hs2 = hs2K := by unfold hs2 hs2K; rw [apply_K, hs1_K]
def hs3K : StT := (applyK hs2K cmA).2
theorem hs3_K : hs3 = hs3K := by unfold hs3 hs3K; rw [apply_K, hs2_K]
theorem hs2_eq : applyC hs1 cmA = (⟨0, 0, ([⟨[47, 97], 0⟩] : List OutT), 2⟩, hs2) := Prod.ext (by rw [apply_K, hs1_K]; kernel_rfl) rfl
theorem hs3_eq : applyC hs2 cmA = (⟨0, 0, ([⟨[47, 97], 0⟩] : List OutT), 2⟩, hs3) := Prod.ext (by rw [apply_K, hs2_K]; kernel_rfl) rfl
theorem cmA_R : cmdR cmA = true := by decide
theorem hs1_run : RunS hs1 1 1 := run0.step (c := openC 1) (by decide) (by omega) (by omega)
theorem hs2_run : RunS hs2 3 2 := hs1_run.step (c := cmA) cmA_R (by omega) (by omega)
theorem hs3_run : RunS hs3 5 3 := hs2_run.step (c := cmA) cmA_R (by omega) (by omega)
theorem hs3_get : (getF hs3.tree [47, 97]).2 = 0 := by rw [hs3_K]; kernel_rfl

set_option maxRecDepth 100000 in
set_option maxHeartbeats 8000000 in
theorem head_state {g w : World} {L : List Asn} (S0 : Sat g w L) (hG : GL g) (hm : oldA g ∈ L) :
    Calls Tryz.prog 26 #[] w fun e w' => e = .returned (.bool true) ∧ Sat g w' L := by
  have HG0 := hide hG
  clear hG
  have HT1 : Hid (∀ (w' : World) (L' : List Asn), Sat g w' L' → Calls Tryz.prog 30 #[.agg #[.int .i64 1, .int .i64 1, .int .i64 0, .int .i64 0, .slice none 0 0, .string ⟨#[]⟩, .bool false, .bool false]] w' fun e w2 => e = .returned (.string (S (bytesF (openC 1)).1)) ∧ Sat g w2 L') := hide fun w' L' S' => s_textc S' (openC 1) none 0 (Src.nil _ _ _) ⟨by simp [openC], by simp [openC], by simp [openC]⟩
  have HS1 : Hid (∀ (w' : World) (L' : List Asn) (b : Nat), Sat g w' (stateA b st0 :: L') → oldA g ∈ L' → Calls Tryz.prog 29 #[ptr b, .string (S (bytesF (openC 1)).1)] w' fun e w2 => ∃ A cap, e = .returned (.agg #[.int .i64 0, .int .i64 0, .slice A 0 cap, .int .i64 1]) ∧ Sat g w2 (rowA 129 2 (.slice A 0 cap) 0 [] :: stateA b hs1 :: L')) := hide fun w' L' b S' h => s_say2 S' HG0.out h run0 (by omega) (by omega) (by decide) (by decide) hs1_eq
  have HMD : Hid (∀ (w' : World) (L' : List Asn) (A : Option Addr) (cap : Nat), Sat g w' L' → Calls Tryz.prog 24 #[.int .i64 1, .int .i64 1, .slice A 1 cap] w' fun e w2 => e = .returned (.agg #[.int .i64 3, .int .i64 1, .int .i64 1, .int .i64 0, .slice A 1 cap, .string ⟨#[]⟩, .bool false, .bool false]) ∧ Sat g w2 L') := hide fun w' L' A cap S' => s_made S' 1 1 [opA] A cap
  have HT2 : Hid (∀ (w' : World) (L' : List Asn) (ob : Nat), Sat g w' (cellsA ob 103 #[.int .i64 1, .string (S [47, 97]), .string (S []), .int .i64 (-1), .bool false, .bool false] :: L') → Calls Tryz.prog 30 #[.agg #[.int .i64 3, .int .i64 1, .int .i64 1, .int .i64 0, .slice (some ⟨ob, 0, none⟩) 1 1, .string ⟨#[]⟩, .bool false, .bool false]] w' fun e w2 => e = .returned (.string (S (bytesF cmA).1)) ∧ Sat g w2 (cellsA ob 103 #[.int .i64 1, .string (S [47, 97]), .string (S []), .int .i64 (-1), .bool false, .bool false] :: L')) := hide fun w' L' ob S' => s_text1 opA S' rfl 1 1 (by decide) (by decide)
  have HS2 : Hid (∀ (w' : World) (L' : List Asn) (b : Nat), Sat g w' (stateA b hs1 :: L') → oldA g ∈ L' → Calls Tryz.prog 29 #[ptr b, .string (S (bytesF cmA).1)] w' fun e w2 => ∃ A cap, e = .returned (.agg #[.int .i64 0, .int .i64 0, .slice A 1 cap, .int .i64 2]) ∧ Sat g w2 (rowA 129 2 (.slice A 1 cap) 1 (([⟨[47, 97], 0⟩] : List OutT).flatMap outC) :: stateA b hs2 :: L')) := hide fun w' L' b S' h => s_say2 S' HG0.out h hs1_run (by omega) (by omega) cmA_R (by decide) hs2_eq
  have HS3 : Hid (∀ (w' : World) (L' : List Asn) (b : Nat), Sat g w' (stateA b hs2 :: L') → oldA g ∈ L' → Calls Tryz.prog 29 #[ptr b, .string (S (bytesF cmA).1)] w' fun e w2 => ∃ A cap, e = .returned (.agg #[.int .i64 0, .int .i64 0, .slice A 1 cap, .int .i64 2]) ∧ Sat g w2 (rowA 129 2 (.slice A 1 cap) 1 (([⟨[47, 97], 0⟩] : List OutT).flatMap outC) :: stateA b hs3 :: L')) := hide fun w' L' b S' h => s_say2 S' HG0.out h hs2_run (by omega) (by omega) cmA_R (by decide) hs3_eq
  have hat := hs3_run.at_
  have HGET := hide hs3_get
  generalize (bytesF (openC 1)).1 = T1 at *
  generalize (bytesF cmA).1 = T2 at *
  generalize hs1 = h1 at *
  generalize hs2 = h2 at *
  generalize hs3 = h3 at *
  go_enter Tryz.func26, Tryz.ntmps26
  go_wp2_with fail
  refine (s_newst S0).mono ?_
  rintro e w1 ⟨b, rfl, S1⟩
  clear S0
  go_wp2_with fail
  refine (HT1.out _ _ S1).mono ?_
  rintro e w2 ⟨rfl, S2⟩
  clear S1 HT1
  go_wp2_with fail
  refine (HS1.out _ _ b S2 (by simp [hm])).mono ?_
  rintro e w3 ⟨A1, c1, rfl, S3⟩
  clear S2 HS1
  have S4 := S3.box #[.int .i64 0, .int .i64 0, .slice A1 0 c1, .int .i64 1] 52 rfl
  go_upto_region 3 with fail
  generalize w3.alloc (.cells #[.int .i64 0, .int .i64 0, .slice A1 0 c1, .int .i64 1] 52) = w4 at *
  generalize w3.heap.size = r1 at *
  clear S3
  have S5 := S4.box #[.int .i64 1, .string (S [47, 97]), .string (S []), .int .i64 (-1), .bool false, .bool false] 103 rfl
  go_wp2_with fail
  refine (HMD.out _ _ _ _ S5).mono ?_
  rintro e w6 ⟨rfl, S6⟩
  generalize w4.heap.size = ob at *
  clear S4 S5 HMD
  go_wp2_with fail
  refine (HT2.out _ _ ob S6).mono ?_
  rintro e w7 ⟨rfl, S7⟩
  clear S6 HT2
  have S8 : Sat g w7 (stateA b h1 :: cellsA ob 103 #[.int .i64 1, .string (S [47, 97]), .string (S []), .int .i64 (-1), .bool false, .bool false] :: cellsA r1 52 #[.int .i64 0, .int .i64 0, .slice A1 0 c1, .int .i64 1] :: rowA 129 2 (.slice A1 0 c1) 0 [] :: L) := S7.bring 3
  clear S7
  go_wp2_with fail
  refine (HS2.out _ _ b S8 (by simp [hm])).mono ?_
  rintro e w8 ⟨A2, c2, rfl, S9⟩
  clear S8 HS2
  have S10 := S9.box #[.int .i64 0, .int .i64 0, .slice A2 1 c2, .int .i64 2] 52 rfl
  go_upto_region 5 with fail
  generalize w8.alloc (.cells #[.int .i64 0, .int .i64 0, .slice A2 1 c2, .int .i64 2] 52) = w9 at *
  generalize w8.heap.size = r2 at *
  clear S9
  have S11 : Sat g w9 (stateA b h2 :: cellsA r2 52 #[.int .i64 0, .int .i64 0, .slice A2 1 c2, .int .i64 2] :: rowA 129 2 (.slice A2 1 c2) 1 (([⟨[47, 97], 0⟩] : List OutT).flatMap outC) :: cellsA ob 103 #[.int .i64 1, .string (S [47, 97]), .string (S []), .int .i64 (-1), .bool false, .bool false] :: cellsA r1 52 #[.int .i64 0, .int .i64 0, .slice A1 0 c1, .int .i64 1] :: rowA 129 2 (.slice A1 0 c1) 0 [] :: L) := S10.bring 2
  clear S10
  go_wp2_with fail
  refine (HS3.out _ _ b S11 (by simp [hm])).mono ?_
  rintro e w10 ⟨A3, c3, rfl, S12⟩
  clear S11 HS3
  have S13 := S12.box #[.int .i64 0, .int .i64 0, .slice A3 1 c3, .int .i64 2] 52 rfl
  go_upto_region 6 with fail
  generalize w10.alloc (.cells #[.int .i64 0, .int .i64 0, .slice A3 1 c3, .int .i64 2] 52) = w11 at *
  generalize w10.heap.size = r3 at *
  clear S12
  have S14 : Sat g w11 (stateA b h3 :: cellsA r3 52 #[.int .i64 0, .int .i64 0, .slice A3 1 c3, .int .i64 2] :: rowA 129 2 (.slice A3 1 c3) 1 (([⟨[47, 97], 0⟩] : List OutT).flatMap outC) :: cellsA r2 52 #[.int .i64 0, .int .i64 0, .slice A2 1 c2, .int .i64 2] :: rowA 129 2 (.slice A2 1 c2) 1 (([⟨[47, 97], 0⟩] : List OutT).flatMap outC) :: cellsA r1 52 #[.int .i64 0, .int .i64 0, .slice A1 0 c1, .int .i64 1] :: L) := (((S13.bring 5).drop.bring 6).drop.bring 2)
  have hatc := s_atst S14
  rw [show h3.at_ = 3 from by simpa using hat] at hatc
  clear S13
  go_wp2_with fail
  refine hatc.mono ?_
  rintro e w12 ⟨rfl, S15⟩
  clear S14 hatc hat
  obtain ⟨t, ts, bk, S16⟩ := S15.stateOpen
  have q0 := S16.cell 0 _ rfl
  have hgt := get_tree S16.p1 (HG0.out.at S16 (by simp [hm])) [47, 97] (by decide)
  generalize getF h3.tree [47, 97] = G at *
  obtain ⟨⟨n1, n2, n3, n4, n5, n6, n7⟩, ge⟩ := G
  obtain rfl : ge = 0 := HGET.out
  go_wp2_with fail
  refine hgt.mono ?_
  rintro e w13 ⟨rfl, S17⟩
  have S18 := S17.box #[.string (S n1), .int .i64 n2, .int .i64 n3, .int .i64 n4, .int .i64 n5, .int .i64 n6, .int .i64 n7] 39 rfl
  go_upto_region 9 with fail
  generalize w13.alloc (.cells #[.string (S n1), .int .i64 n2, .int .i64 n3, .int .i64 n4, .int .i64 n5, .int .i64 n6, .int .i64 n7] 39) = w14 at *
  clear S15 S16 S17 q0 hgt HGET
  have S19 : Sat g w14 (cellsA r3 52 #[.int .i64 0, .int .i64 0, .slice A3 1 c3, .int .i64 2] :: rowA 129 2 (.slice A3 1 c3) 1 (([⟨[47, 97], 0⟩] : List OutT).flatMap outC) :: cellsA r2 52 #[.int .i64 0, .int .i64 0, .slice A2 1 c2, .int .i64 2] :: rowA 129 2 (.slice A2 1 c2) 1 (([⟨[47, 97], 0⟩] : List OutT).flatMap outC) :: cellsA r1 52 #[.int .i64 0, .int .i64 0, .slice A1 0 c1, .int .i64 1] :: L) := S18.drop.drop.drop.drop.drop
  have HSM : Hid (∀ (w' : World) (L' : List Asn), Sat g w' (rowA 129 2 (.slice A3 1 c3) 1 (([⟨[47, 97], 0⟩] : List OutT).flatMap outC) :: cellsA r2 52 #[.int .i64 0, .int .i64 0, .slice A2 1 c2, .int .i64 2] :: rowA 129 2 (.slice A2 1 c2) 1 (([⟨[47, 97], 0⟩] : List OutT).flatMap outC) :: L') → Calls Tryz.prog 36 #[.agg #[.int .i64 0, .int .i64 0, .slice A3 1 c3, .int .i64 2], .agg #[.int .i64 0, .int .i64 0, .slice A2 1 c2, .int .i64 2]] w' fun e w2 => e = .returned (.bool true) ∧ Sat g w2 (rowA 129 2 (.slice A3 1 c3) 1 (([⟨[47, 97], 0⟩] : List OutT).flatMap outC) :: cellsA r2 52 #[.int .i64 0, .int .i64 0, .slice A2 1 c2, .int .i64 2] :: rowA 129 2 (.slice A2 1 c2) 1 (([⟨[47, 97], 0⟩] : List OutT).flatMap outC) :: L')) := hide fun w' L' S' => by
    refine (same_res w' ⟨0, 0, ([⟨[47, 97], 0⟩] : List OutT), 2⟩ ⟨0, 0, ([⟨[47, 97], 0⟩] : List OutT), 2⟩ A3 A2 c3 c2 S'.srcT S'.p2.srcT (by decide) (by decide)).mono ?_
    rintro e w2 ⟨rfl, hk⟩
    exact ⟨by simp, S'.keep hk⟩
  have z30 := S19.cell 0 _ rfl
  have z31 := S19.cell 1 _ rfl
  have z32 := S19.cell 2 _ rfl
  have z33 := S19.cell 3 _ rfl
  have z20 := S19.p2.cell 0 _ rfl
  have z21 := S19.p2.cell 1 _ rfl
  have z22 := S19.p2.cell 2 _ rfl
  have z23 := S19.p2.cell 3 _ rfl
  have z10 := S19.p4.cell 0 _ rfl
  clear S18
  go_wp2_with fail
  refine (HSM.out _ _ S19.drop).mono ?_
  rintro e w15 ⟨rfl, S20⟩
  have HF := hide S20.drop.drop.drop.drop
  clear S19 S20 z30 z31 z32 z33 z20 z21 z22 z23 z10 HSM
  go_wp2_with fail
  go_ret
  exact ⟨rfl, HF.out⟩
end Go.Proofs.YthgiamofndhehaaGreatDoor
