/- The statements' own helper over the package op: few operations, told apart. No condition. -/
import Derived.Test.YtegafdkhbgojcaaGreatDoorOpsM
set_option linter.unusedVariables false
namespace Go.Proofs.YtegafdkhbgojcaaGreatDoor
open Go.RowKit
/-- few operations, short texts -/
def fewOp (o : OpT) : Bool := decide (o.path.length ≤ 200) && decide (o.data.length ≤ 200)
def fewF (c : CmdT) : Bool := c.ops.all fewOp && (decide (c.ops.length ≤ 10) && decide (c.path.length ≤ 200))
theorem all_false {l : List OpT} {k : Nat} {o : OpT} (h : l[k]? = some o) (hf : fewOp o = false) : l.all fewOp = false := by
  rw [List.all_eq_false]
  exact ⟨o, List.mem_of_getElem? h, by simp [hf]⟩
theorem all_step {l : List OpT} {k : Nat} {o : OpT} (h : l[k]? = some o) (hf : fewOp o = true) (ha : (l.take k).all fewOp = true) : (l.take (k + 1)).all fewOp = true := by
  obtain ⟨hk, rfl⟩ := List.getElem?_eq_some_iff.1 h
  rw [List.take_succ_eq_append_getElem hk, List.all_append, ha]
  simp [hf]
set_option maxRecDepth 100000 in
set_option maxHeartbeats 1000000 in
theorem few_det (w : World) (c : CmdT) (A : Option Addr) (cap : Nat) (h : OpSrc w A c.ops) (hok : CmdOk c) :
    Calls Tryz.prog 28 #[cmdV c A cap] w fun e w' => e = .returned (.bool (fewF c)) ∧ Keeps (fun _ => False) w w' := by
  obtain ⟨kind, session, req, noted, ops, path, kids, once⟩ := c
  obtain ⟨hp, hl, ho⟩ := hok
  simp only at h hp hl ho
  have HO := hide ho
  clear ho
  go_enter Tryz.func28, Tryz.ntmps28
  go_wp2_with fail
  have HC := hide (Blk.new (w := w) (cs := #[.int .i64 kind, .int .i64 session, .int .i64 req, .int .i64 noted, .slice A ops.length cap, .string (S path), .bool kids, .bool once]) (e := 63) rfl)
  have HK0 := hide ((Keeps.refl (fun _ => False) w).alloc (.cells #[.int .i64 kind, .int .i64 session, .int .i64 req, .int .i64 noted, .slice A ops.length cap, .string (S path), .bool kids, .bool once] 63))
  have HA0 : Hid ((ops.take 0).all fewOp = true) := hide (by simp)
  go_loopw [8] (fun i wr => ∃ k : Nat, k ≤ ops.length ∧ i = .int .i64 k ∧ Blk wr w.heap.size 63 #[.int .i64 kind, .int .i64 session, .int .i64 req, .int .i64 noted, .slice A ops.length cap, .string (S path), .bool kids, .bool once] ∧ Keeps (fun _ => False) w wr ∧ Hid ((ops.take k).all fewOp = true)) (fun i _ => ops.length - (intOf i).toNat)
  case atStart => exact ⟨0, by omega, rfl, HC.out, HK0.out, HA0⟩
  case round =>
    obtain ⟨k, hk, rfl, hC, hK, HA⟩ := hrel
    clear HC HK0 HA0
    have HC := hide hC
    have HK := hide hK
    clear hC hK
    by_cases hlt : k < ops.length
    · obtain ⟨ad, o, rfl, hx, c0, c1, c2, c3, c4, c5⟩ := ops_at (h.keep HK.out (fun _ _ h => h)) hlt
      obtain ⟨odoes, opath, odata, over, oser, oown⟩ := o
      obtain ⟨hop, hod⟩ := HO.out _ (List.mem_of_getElem? hx)
      simp only at hop hod c0 c1 c2 c3 c4 c5
      have HX := hide hx
      clear hx
      go_wp2_with fail
      all_goals first
        | (go_ret
           refine ⟨congrArg (fun b => Ending.returned (.bool b)) ?_, HK.out.alloc _⟩
           have hf : fewOp ⟨odoes, opath, odata, over, oser, oown⟩ = false := by simp [fewOp]; omega
           show false = fewF _
           unfold fewF
           rw [all_false HX.out hf]
           rfl)
        | (go_roundw
           case rel =>
             have hf : fewOp ⟨odoes, opath, odata, over, oser, oown⟩ = true := by simp [fewOp]; omega
             exact ⟨k + 1, by omega, by go_num, HC.out.alloc _, HK.out.alloc _, hide (all_step HX.out hf HA.out)⟩
           case measure => simp [intOf]; omega)
    · obtain rfl : k = ops.length := by omega
      have q4 : wr.cell? ⟨w.heap.size, 4, none⟩ = some (.slice A ops.length cap) := HC.out.cell 4 _ rfl
      have q5 : wr.cell? ⟨w.heap.size, 5, none⟩ = some (.string (S path)) := HC.out.cell 5 _ rfl
      have hall : ops.all fewOp = true := by have := HA.out; rwa [List.take_length] at this
      have HAL := hide hall
      clear hall
      go_wp2_with fail
      all_goals
        go_ret
        refine ⟨congrArg (fun b => Ending.returned (.bool b)) ?_, HK.out⟩
        unfold fewF
        rw [HAL.out]
        by_cases h10 : ops.length ≤ 10 <;> by_cases hd : path.length ≤ 200 <;> simp [h10, hd] <;> omega
end Go.Proofs.YtegafdkhbgojcaaGreatDoor
