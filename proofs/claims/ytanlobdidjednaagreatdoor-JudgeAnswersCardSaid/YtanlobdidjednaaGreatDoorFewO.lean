/- The statements' own helper over the package op: few operations. No condition. -/
import Derived.Test.YtanlobdidjednaaGreatDoorOpsM
set_option linter.unusedVariables false
namespace Go.Proofs.YtanlobdidjednaaGreatDoor
open Go.RowKit


set_option maxRecDepth 100000 in
set_option maxHeartbeats 1000000 in
theorem few_cmd (w : World) (c : CmdT) (A : Option Addr) (cap : Nat) (h : OpSrc w A c.ops) (hok : CmdOk c) :
    Calls Tryz.prog 15 #[cmdV c A cap] w fun e w' => (e = .returned (.bool false) ∨ (e = .returned (.bool true) ∧ c.ops.length ≤ 10 ∧ c.path.length ≤ 200)) ∧ Keeps (fun _ => False) w w' := by
  obtain ⟨kind, session, req, noted, ops, path, kids, once⟩ := c
  obtain ⟨hp, hl, ho⟩ := hok
  simp only at h hp hl ho
  have HO := hide ho
  clear ho
  go_enter Tryz.func15, Tryz.ntmps15
  go_wp2_with fail
  have HC := hide (Blk.new (w := w) (cs := #[.int .i64 kind, .int .i64 session, .int .i64 req, .int .i64 noted, .slice A ops.length cap, .string (S path), .bool kids, .bool once]) (e := 35) rfl)
  have HK0 := hide ((Keeps.refl (fun _ => False) w).alloc (.cells #[.int .i64 kind, .int .i64 session, .int .i64 req, .int .i64 noted, .slice A ops.length cap, .string (S path), .bool kids, .bool once] 35))
  go_loopw [8] (fun i wr => ∃ k : Nat, k ≤ ops.length ∧ i = .int .i64 k ∧ Blk wr w.heap.size 35 #[.int .i64 kind, .int .i64 session, .int .i64 req, .int .i64 noted, .slice A ops.length cap, .string (S path), .bool kids, .bool once] ∧ Keeps (fun _ => False) w wr) (fun i _ => ops.length - (intOf i).toNat)
  case atStart => exact ⟨0, by omega, rfl, HC.out, HK0.out⟩
  case round =>
    obtain ⟨k, hk, rfl, hC, hK⟩ := hrel
    clear HC HK0
    have HC := hide hC
    have HK := hide hK
    clear hC hK
    by_cases hlt : k < ops.length
    · obtain ⟨ad, o, rfl, hx, c0, c1, c2, c3, c4, c5⟩ := ops_at (h.keep HK.out (fun _ _ h => h)) hlt
      obtain ⟨odoes, opath, odata, over, oser, oown⟩ := o
      obtain ⟨hop, hod⟩ := HO.out _ (List.mem_of_getElem? hx)
      simp only at hop hod c0 c1 c2 c3 c4 c5
      clear hx
      go_wp2_with fail
      all_goals first
        | (go_ret
           exact ⟨.inl rfl, HK.out.alloc _⟩)
        | (go_roundw
           case rel => exact ⟨k + 1, by omega, by go_num, HC.out.alloc _, HK.out.alloc _⟩
           case measure => simp [intOf]; omega)
    · obtain rfl : k = ops.length := by omega
      have q4 : wr.cell? ⟨w.heap.size, 4, none⟩ = some (.slice A ops.length cap) := HC.out.cell 4 _ rfl
      have q5 : wr.cell? ⟨w.heap.size, 5, none⟩ = some (.string (S path)) := HC.out.cell 5 _ rfl
      go_wp2_with fail
      all_goals
        go_ret
        first
          | exact ⟨.inl rfl, HK.out⟩
          | exact ⟨.inr ⟨rfl, by omega, by omega⟩, HK.out⟩
          | (refine ⟨?_, HK.out⟩
             by_cases hd : path.length ≤ 200
             · exact .inr ⟨congrArg (fun b => Ending.returned (.bool b)) (by simp; omega), by omega, hd⟩
             · exact .inl (congrArg (fun b => Ending.returned (.bool b)) (by simp; omega)))

end Go.Proofs.YtanlobdidjednaaGreatDoor
