/- The statements' own helpers over the package op: a command made, the document's example, whether few. No condition. -/
import Derived.Test.YtcnehacblodiaaaDoorSame
import Derived.Test.YtcnehacblodiaaaDoorCodec
import Derived.Laws.Rows
set_option linter.unusedVariables false
namespace Go.Proofs.YtcnehacblodiaaaDoor
open Go.RowKit

/-- a command of operations -/
def madeF (session req : Int) (os : List OpT) : CmdT := ⟨3, session, req, 0, os, [], false, false⟩

set_option maxRecDepth 100000 in
theorem made_cmd (w : World) (session req : Int) (os : List OpT) (A : Option Addr) (cap : Nat) :
    Calls Tryd.prog 24 #[.int .i64 session, .int .i64 req, .slice A os.length cap] w fun e w' => e = .returned (cmdV (madeF session req os) A cap) ∧ Keeps (fun _ => False) w w' := by
  go_enter Tryd.func24, Tryd.ntmps24
  go_wp2_with fail
  refine bodyPost_ret (results_cell_row Tryd.results24 _ _ w.heap.size _ _ _ _ rfl (heap_alloc_new w _) Tryd.underlying25 rfl (by kernel_rfl)) rfl ?_
  exact ⟨rfl, (Keeps.refl _ w).alloc _⟩


theorem bytes_eq (w : World) (c : CmdT) (A : Option Addr) (cap : Nat) (h : OpSrc w A c.ops) (hok : CmdOk c) {s : List UInt8} {x : Int} (hb : bytesF c = (s, x)) :
    Calls Tryd.prog 14 #[cmdV c A cap] w fun e w' => e = .returned (.tuple #[.string (S s), .int .i64 x]) ∧ Keeps (fun _ => False) w w' := by
  have := bytes_cmd w c A cap h hok
  rw [hb] at this
  exact this
theorem read_eq (w : World) (s : List UInt8) (hs : s.length ≤ 9223372036854775807) {c : CmdT} {x : Int} (hr : readF s = (c, x)) :
    Calls Tryd.prog 21 #[.string (S s)] w fun e w' => ∃ A cap, e = .returned (.tuple #[cmdV c A cap, .int .i64 x]) ∧ OpSrc w' A c.ops ∧ Keeps (fun _ => False) w w' := by
  have := read_cmd w s hs
  rw [hr] at this
  exact this
theorem same_eq (w : World) (c d : CmdT) (A B : Option Addr) (cap cbp : Nat) (hc : OpSrc w A c.ops) (hd : OpSrc w B d.ops) (hlc : c.ops.length ≤ 9223372036854775807) (hld : d.ops.length ≤ 9223372036854775807) {b : Bool} (hb : decide (c = d) = b) :
    Calls Tryd.prog 22 #[cmdV c A cap, cmdV d B cbp] w fun e w' => e = .returned (.bool b) ∧ Keeps (fun _ => False) w w' := by
  have := same_cmd w c d A B cap cbp hc hd hlc hld
  rw [hb] at this
  exact this

def op0 : OpT := ⟨1, [47, 97], [], -1, false, false⟩
theorem head_fact : bytesF ⟨3, 5, 1, 0, [op0], [], false, false⟩ = (cmdB ⟨3, 5, 1, 0, [op0], [], false, false⟩, 0) := by decide +kernel
theorem head_ok : CmdOk ⟨3, 5, 1, 0, [op0], [], false, false⟩ := ⟨by decide, by decide, fun o ho => by simp only [List.mem_singleton] at ho; subst ho; exact ⟨by decide, by decide⟩⟩

set_option maxRecDepth 100000 in
theorem head_op (w : World) : Calls Tryd.prog 12 #[] w fun e w' => e = .returned (.bool true) ∧ Keeps (fun _ => False) w w' := by
  have hfact := head_fact
  have hlen : (cmdB ⟨3, 5, 1, 0, [op0], [], false, false⟩).length ≤ 9223372036854775807 := by decide +kernel
  generalize cmdB ⟨3, 5, 1, 0, [op0], [], false, false⟩ = s0 at hfact hlen
  have hread := readF_of hfact
  have HF := hide hfact
  have HR := hide hread
  clear hfact hread
  go_enter Tryd.func12, Tryd.ntmps12
  go_wp2_with fail
  have hs0 : OpSrc (w.alloc (.cells #[.int .i64 1, .string ⟨#[47, 97]⟩, .string ⟨#[]⟩, .int .i64 (-1), .bool false, .bool false] 35)) (some ⟨w.heap.size, 0, none⟩) [op0] := Src.block (heap_alloc_new w _) 6 1 rfl
  refine (show Calls _ _ _ _ fun e w' => e = .returned (.agg #[.int .i64 3, .int .i64 5, .int .i64 1, .int .i64 0, .slice (some ⟨w.heap.size, 0, none⟩) 1 1, .string ⟨#[]⟩, .bool false, .bool false]) ∧ Keeps (fun _ => False) _ w' from made_cmd _ 5 1 [op0] _ _).mono ?_
  rintro e w1 ⟨rfl, hk⟩
  have HS := hide (hs0.keep hk (fun _ _ h => h))
  have HK := hide (((Keeps.refl (fun _ => False) w).alloc _).trans' hk)
  clear hs0 hk
  go_wp2_with fail
  refine (bytes_eq _ ⟨3, 5, 1, 0, [op0], [], false, false⟩ _ _ (HS.out.keep ((Keeps.refl (fun _ => False) w1).alloc _) (fun _ _ h => h)) head_ok HF.out).mono ?_
  rintro e w2 ⟨rfl, hk⟩
  have HB := hide (Blk.kept (Blk.new rfl) hk (fun h => h))
  replace HS := hide (HS.out.keep (((Keeps.refl (fun _ => False) w1).alloc _).trans' hk) (fun _ _ h => h))
  replace HK := hide ((HK.out.alloc _).trans' hk)
  clear hk
  go_wp2_with fail
  refine (read_eq _ s0 hlen HR.out).mono ?_
  rintro e w3 ⟨B, cb, rfl, hsb, hk⟩
  have HSB := hide hsb
  replace HS := hide (HS.out.keep hk (fun _ _ h => h))
  replace HB := hide (HB.out.kept hk (fun h => h))
  replace HK := hide (HK.out.trans' hk)
  clear hk hsb
  go_upto_region 4 with fail
  have q0 : (w3.alloc (.cells #[.int .i64 3, .int .i64 5, .int .i64 1, .int .i64 0, .slice B 1 cb, .string (S []), .bool false, .bool false] 25)).cell? ⟨w1.heap.size, 0, none⟩ = some (.int .i64 3) := (HB.out.alloc _).cell 0 _ rfl
  have q1 : (w3.alloc (.cells #[.int .i64 3, .int .i64 5, .int .i64 1, .int .i64 0, .slice B 1 cb, .string (S []), .bool false, .bool false] 25)).cell? ⟨w1.heap.size, 1, none⟩ = some (.int .i64 5) := (HB.out.alloc _).cell 1 _ rfl
  have q2 : (w3.alloc (.cells #[.int .i64 3, .int .i64 5, .int .i64 1, .int .i64 0, .slice B 1 cb, .string (S []), .bool false, .bool false] 25)).cell? ⟨w1.heap.size, 2, none⟩ = some (.int .i64 1) := (HB.out.alloc _).cell 2 _ rfl
  have q3 : (w3.alloc (.cells #[.int .i64 3, .int .i64 5, .int .i64 1, .int .i64 0, .slice B 1 cb, .string (S []), .bool false, .bool false] 25)).cell? ⟨w1.heap.size, 3, none⟩ = some (.int .i64 0) := (HB.out.alloc _).cell 3 _ rfl
  have q4 : (w3.alloc (.cells #[.int .i64 3, .int .i64 5, .int .i64 1, .int .i64 0, .slice B 1 cb, .string (S []), .bool false, .bool false] 25)).cell? ⟨w1.heap.size, 4, none⟩ = some (.slice (some ⟨w.heap.size, 0, none⟩) 1 1) := (HB.out.alloc _).cell 4 _ rfl
  have q5 : (w3.alloc (.cells #[.int .i64 3, .int .i64 5, .int .i64 1, .int .i64 0, .slice B 1 cb, .string (S []), .bool false, .bool false] 25)).cell? ⟨w1.heap.size, 5, none⟩ = some (.string ⟨#[]⟩) := (HB.out.alloc _).cell 5 _ rfl
  have q6 : (w3.alloc (.cells #[.int .i64 3, .int .i64 5, .int .i64 1, .int .i64 0, .slice B 1 cb, .string (S []), .bool false, .bool false] 25)).cell? ⟨w1.heap.size, 6, none⟩ = some (.bool false) := (HB.out.alloc _).cell 6 _ rfl
  have q7 : (w3.alloc (.cells #[.int .i64 3, .int .i64 5, .int .i64 1, .int .i64 0, .slice B 1 cb, .string (S []), .bool false, .bool false] 25)).cell? ⟨w1.heap.size, 7, none⟩ = some (.bool false) := (HB.out.alloc _).cell 7 _ rfl
  have HW := hide (Eq.refl (w3.alloc (.cells #[.int .i64 3, .int .i64 5, .int .i64 1, .int .i64 0, .slice B 1 cb, .string (S []), .bool false, .bool false] 25)))
  go_wp2_with fail
  refine (same_eq _ ⟨3, 5, 1, 0, [op0], [], false, false⟩ ⟨3, 5, 1, 0, [op0], [], false, false⟩ _ _ _ _ (HSB.out.keep ((Keeps.refl (fun _ => False) w3).alloc _) (fun _ _ h => h)) (HS.out.keep ((Keeps.refl (fun _ => False) w3).alloc _) (fun _ _ h => h)) (by decide) (by decide) (decide_eq_true rfl)).mono ?_
  rintro e w4 ⟨rfl, hk⟩
  have c0 : w4.cell? ⟨w3.heap.size, 0, none⟩ = some (.int .i64 3) := (Blk.kept (Blk.new rfl) hk (fun h => h)).cell 0 _ rfl
  replace HK := hide ((HK.out.alloc _).trans' hk)
  clear hk q0 q1 q2 q3 q4 q5 q6 q7
  go_wp2_with fail
  go_ret
  exact ⟨rfl, HK.out⟩

end Go.Proofs.YtcnehacblodiaaaDoor
