/- The statement ClientWaits: the call. No condition. -/
import Derived.Test.YtegafdkhbgojcaaGreatDoorCWR
set_option linter.unusedVariables false
set_option maxRecDepth 100000
namespace Go.Proofs.YtegafdkhbgojcaaGreatDoor.Ek
open Go.Proofs.YtegafdkhbgojcaaGreatDoor.Ex
theorem waits_walk (w : World) (c d : CmdT) (A A' : Option Addr) (cap cap' : Nat) (hA : OpSrc w A c.ops) (hc : CmdOk c) (hB : OpSrc w A' d.ops) (hd : CmdOk d) :
    Calls Tryz.prog 7 #[cmdV c A cap, cmdV d A' cap'] w fun e w' => e = .returned (.bool true) ∧ Keeps (fun k => w.heap.size ≤ k) w w' := by
  obtain ⟨cs, hcs⟩ : ∃ cs : Array Value, cmdV c A cap = .agg cs ∧ cs.size = 8 ∧ (∀ v ∈ cs.toList, v.oneCell' = true) := ⟨#[.int .i64 c.kind, .int .i64 c.session, .int .i64 c.req, .int .i64 c.noted, .slice A c.ops.length cap, .string (S c.path), .bool c.kids, .bool c.once], rfl, rfl, by simp [Value.oneCell']⟩
  obtain ⟨ds, hds⟩ : ∃ ds : Array Value, cmdV d A' cap' = .agg ds ∧ ds.size = 8 ∧ (∀ v ∈ ds.toList, v.oneCell' = true) := ⟨#[.int .i64 d.kind, .int .i64 d.session, .int .i64 d.req, .int .i64 d.noted, .slice A' d.ops.length cap', .string (S d.path), .bool d.kids, .bool d.once], rfl, rfl, by simp [Value.oneCell']⟩
  obtain ⟨ec, sc, oc⟩ := hcs
  obtain ⟨ed, sd, od⟩ := hds
  have hX := XW_ok oc od
  have hf : NatOk (XW cs ds) Tryz.prog w (fun B => w.heap[B]?) 28 (nFew (fewF c) (fewF d)) := nFew_ok (w := w) (c := cs) (d := ds) sc sd (b1 := fewF c) (b2 := fewF d) (fun w1 hk => by rw [← ec]; exact few_det w1 c A cap (hA.keep hk fun _ _ h => h) hc) (fun w1 hk => by rw [← ed]; exact few_det w1 d A' cap' (hB.keep hk fun _ _ h => h) hd)
  have hargs : VRs (XW cs ds) (fun _ => none) [cA, cB] #[cmdV c A cap, cmdV d A' cap'].toList := by
    rw [ec, ed]
    refine VRs_cons.2 ⟨_, _, rfl, ⟨cs, rfl, ?_⟩, VRs_cons.2 ⟨_, _, rfl, ⟨ds, rfl, ?_⟩, VRs_nil.2 rfl⟩⟩
    · obtain ⟨l⟩ := cs
      match l, sc with
      | [c0, c1, c2, c3, c4, c5, c6, c7], _ => simp [VRs_cons, VRs_nil, VR, XW]
    · obtain ⟨l⟩ := ds
      match l, sd with
      | [c0, c1, c2, c3, c4, c5, c6, c7], _ => simp [VRs_cons, VRs_nil, VR, XW]
  refine (calls_of_args (X := XW cs ds) (M := nthN masks) (args := #[cmdV c A cap, cmdV d A' cap']) Tryz.func7 rfl hargs (R := fun v w' => v = .bool true ∧ Keeps (fun _ => False) w w') fun C0 => ?_).mono ?_
  · have fin : FinOk (XW cs ds) w (fun B => w.heap[B]?) (finL (.b true) []) fun v w' => v = .bool true ∧ Keeps (fun _ => False) w w' := fun y h nx ρ v w' hf hH hv => by
      obtain ⟨ρ', h1, h2⟩ := finL_ok y h nx ρ v w' hf hH hv
      exact ⟨h2, keeps_of_HR h1⟩
    generalize fewF c = b1 at hf
    generalize fewF d = b2 at hf
    cases b1 with
    | false =>
      exact last_ok (f0 := 7) (C0 := C0) hX fields mixed (natW_ok hf) names fin (w0c0 b2)
    | true =>
      cases b2 with
      | false =>
        exact last_ok (f0 := 7) (C0 := C0) hX fields mixed (natW_ok hf) names fin w1c0
      | true =>
        have g3 := last_ok (f0 := 7) (C0 := C0) hX fields mixed (natW_ok hf) names fin w2c3
        have g2 := chunk_ok hX fields mixed (natW_ok hf) names g3 w2c2
        have g1 := chunk_ok hX fields mixed (natW_ok hf) names g2 w2c1
        have g0 := chunk_ok hX fields mixed (natW_ok hf) names g1 w2c0
        exact g0
  · rintro e w' h
    cases e with
    | returned v => exact ⟨congrArg Ending.returned h.1, h.2.mono fun _ _ h => h.elim⟩
    | panicked c => exact h.elim
    | outgrown => exact h.elim

end Go.Proofs.YtegafdkhbgojcaaGreatDoor.Ek
