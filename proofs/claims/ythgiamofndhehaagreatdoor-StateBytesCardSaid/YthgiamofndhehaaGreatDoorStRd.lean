/- A state read out of bytes, walked. No condition. -/
import Derived.Test.YthgiamofndhehaaGreatDoorStCl
import Derived.Test.YthgiamofndhehaaGreatDoorTRdW
import Derived.Test.YthgiamofndhehaaGreatDoorSessM
import Derived.Test.YthgiamofndhehaaGreatDoorBooM
set_option linter.unusedVariables false
set_option linter.unusedSimpArgs false
namespace Go.Proofs.YthgiamofndhehaaGreatDoor
open Go.RowKit

/-- what is read, and what is left -/
def rdS (tx : List UInt8) : StT × RS :=
  (⟨(readTr (rn (tx, false) 281474976710655).2).1, (readT (readTr (rn (tx, false) 281474976710655).2).2).1, (readB (readT (readTr (rn (tx, false) 281474976710655).2).2).2).1, (rn (tx, false) 281474976710655).1⟩, (readB (readT (readTr (rn (tx, false) 281474976710655).2).2).2).2)
theorem tbl_read {g w : World} {L : List Asn} {r : Nat} {x : RS} (S0 : Sat g w (rdA r x :: L)) :
    Calls Tryz.prog 65 #[ptr r] w fun e w' => ∃ t, e = .returned (ptr t) ∧ Sat g w' (tblA t (readT x).1 :: rdA r (readT x).2 :: L) := by
  refine (s_tread S0).mono ?_
  rintro e w' ⟨t, mb, rfl, S1⟩
  exact ⟨t, rfl, S1.tblShut⟩

set_option maxRecDepth 100000 in
set_option maxHeartbeats 8000000 in
theorem read_state {g w : World} {L : List Asn} (S0 : Sat g w L) (hG : GL g) (hm : oldA g ∈ L) (tx : List UInt8) (hs : tx.length ≤ 9223372036854775807) :
    Calls Tryz.prog 32 #[.string (S tx)] w fun e w' => (rdone (rdS tx).2 = 0 → ∃ b, e = .returned (.tuple #[ptr b, .int .i64 0]) ∧ Sat g w' (stateA b (rdS tx).1 :: L)) ∧ (rdone (rdS tx).2 ≠ 0 → e = .returned (.tuple #[.pointer none, .int .i64 2]) ∧ Sat g w' L) := by
  have HG0 := hide hG
  have HRS : Hid (rdS tx = (⟨(readTr (rn (tx, false) 281474976710655).2).1, (readT (readTr (rn (tx, false) 281474976710655).2).2).1, (readB (readT (readTr (rn (tx, false) 281474976710655).2).2).2).1, (rn (tx, false) 281474976710655).1⟩, (readB (readT (readTr (rn (tx, false) 281474976710655).2).2).2).2)) := hide rfl
  generalize rdS tx = RS0 at *
  go_enter Tryz.func32, Tryz.ntmps32
  go_wp2_with fail
  refine (s_read S0 tx hs).mono ?_
  rintro e w1 ⟨r, rfl, S1⟩
  clear S0 hG
  go_wp2_with fail
  refine (s_rnum 281474976710655 S1).mono ?_
  rintro e w2 ⟨rfl, S2⟩
  generalize rn (tx, false) 281474976710655 = a1 at *
  obtain ⟨at_, x1⟩ := a1
  simp only at HRS S2
  clear S1
  have S3 := S2.box #[.pointer none, .pointer none, .pointer none, .int .i64 at_] 47 rfl
  go_upto_region 3 with fail
  generalize w2.alloc (.cells #[.pointer none, .pointer none, .pointer none, .int .i64 at_] 47) = w3 at *
  generalize w2.heap.size = b at *
  clear S2
  go_wp2_with fail
  refine (read_tree S3.p1 HG0.out (by simp [hm])).mono ?_
  rintro e w4 ⟨t, rfl, S4⟩
  generalize readTr x1 = a2 at *
  obtain ⟨T, x2⟩ := a2
  simp only at HRS S4
  clear S3
  go_wp2_with fail
  refine (tbl_read (S4.bring 1)).mono ?_
  rintro e w5 ⟨ts, rfl, S5⟩
  generalize readT x2 = a3 at *
  obtain ⟨m, x3⟩ := a3
  simp only at HRS S5
  clear S4
  go_wp2_with fail
  refine (read_book (S5.bring 1) HG0.out (by simp [bringA, hm])).mono ?_
  rintro e w6 ⟨bk, rfl, S6⟩
  generalize readB x3 = a4 at *
  obtain ⟨B, x4⟩ := a4
  simp only at HRS S6
  clear S5
  have S7 : Sat g w6 (cellsA b 47 #[.pointer none, .pointer none, .pointer none, .int .i64 at_] :: rdA r x4 :: treeA t T :: tblA ts m :: bookA bk B :: L) := ((((S6.bring 2).bring 3).bring 3).bring 4)
  clear S6
  have q0 := S7.cell 0 _ rfl
  have q1 := S7.cell 1 _ rfl
  have q2 := S7.cell 2 _ rfl
  have f0 := S7.cells_fz 0
  have f1 := S7.cells_fz 1
  have f2 := S7.cells_fz 2
  go_upto_region 4 with fail
  have S8 := ((S7.setc 0 (ptr t)).setc 1 (ptr ts)).setc 2 (ptr bk)
  generalize ((w6.setCell ⟨b, 0, none⟩ (ptr t)).setCell ⟨b, 1, none⟩ (ptr ts)).setCell ⟨b, 2, none⟩ (ptr bk) = w7 at *
  clear S7 q0 q1 q2 f0 f1 f2
  go_wp2_with fail
  refine (s_rdone (S8.bring 1)).mono ?_
  rintro e w8 ⟨rfl, S9⟩
  have S10 : Sat g w8 (stateA b ⟨T, m, B, at_⟩ :: L) := Sat.stateShut (s := ⟨T, m, B, at_⟩) (S9.drop)
  clear S8 S9
  by_cases hd : rdone x4 = 0
  · have HS := hide S10
    rw [hd]
    clear S10
    go_wp2_with fail
    go_ret2
    refine ⟨fun _ => ⟨b, rfl, ?_⟩, fun h => absurd (by rw [HRS.out]; exact hd) h⟩
    rw [HRS.out]
    exact HS.out
  · have hd2 : (rdone x4 != 0) = true := by simpa using hd
    have HS := hide S10.drop
    clear S10
    go_wp2_with fail
    go_ret2
    exact ⟨fun h => absurd (by rw [HRS.out] at h; exact h) hd, fun _ => ⟨rfl, HS.out⟩⟩
end Go.Proofs.YthgiamofndhehaaGreatDoor
