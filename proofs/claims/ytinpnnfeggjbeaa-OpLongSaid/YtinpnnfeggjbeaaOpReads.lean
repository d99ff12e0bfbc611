/- The law OpReads, walked. No condition. -/
import Derived.Test.YtinpnnfeggjbeaaHelpo
set_option linter.unusedVariables false
namespace Go.Proofs.Ytinpnnfeggjbeaa
open Go.RowKit

theorem ok_of {c : CmdT} (h : cmdR c = true) : CmdOk c := by
  obtain ⟨_, _, _, h4, h5, h6⟩ := cmdR_of h
  refine ⟨by omega, by omega, fun o ho => ?_⟩
  obtain ⟨_, _, h7, h8, _, _⟩ := opR_of (h5 o ho)
  exact ⟨by omega, by omega⟩
theorem rule_eq (w : World) (c : CmdT) (A : Option Addr) (cap : Nat) (h : OpSrc w A c.ops) (hr : cmdR c = true) :
    Calls Try.prog 26 #[cmdV c A cap] w fun e w' => e = .returned (.bool true) ∧ Keeps (fun _ => False) w w' := by
  have := rule_cmd w c A cap h (ok_of hr)
  rw [hr] at this
  exact this

set_option maxRecDepth 100000 in
set_option maxHeartbeats 1000000 in
theorem reads_walk (W : World) (s : List UInt8) (hs : s.length ≤ 9223372036854775807) :
    Calls Try.prog 5 #[.string (S s)] W fun e w' => e = .returned (.bool true) ∧ Keeps (fun k => W.heap.size ≤ k) W w' := by
  have HF : Hid (∀ {w w' : World}, Keeps (fun _ => False) w w' → Keeps (fun k => w.heap.size ≤ k) w w') := fun h => h.mono (fun _ _ h => h.elim)
  go_enter Try.func5, Try.ntmps5
  go_wp2_with fail
  refine (head_op W).mono ?_
  rintro e w0 ⟨rfl, hk0⟩
  have HK := hide hk0
  clear hk0
  by_cases hl : s.length ≤ 600
  · go_wp2_with fail
    by_cases hr : (readF s).2 = 0
    · obtain ⟨hb, hc⟩ := readF_bytes hr
      have hE : readF s = ((readF s).1, 0) := Prod.ext rfl hr
      obtain ⟨c, hc0⟩ : ∃ c, c = (readF s).1 := ⟨_, rfl⟩
      rw [← hc0] at hb hc hE
      have HB := hide hb
      have HC := hide hc
      clear hb hc hr hc0
      refine (read_eq _ s hs hE).mono ?_
      rintro e w1 ⟨A, cap, rfl, hsrc, hk⟩
      have HS := hide hsrc
      replace HK := hide (HK.out.trans' hk)
      clear hsrc hk hE
      obtain ⟨kind, session, req, noted, ops, path, kids, once⟩ := c
      go_wp2_with fail
      refine (bytes_eq _ ⟨kind, session, req, noted, ops, path, kids, once⟩ A cap (HS.out.keep ((Keeps.refl (fun _ => False) w1).alloc _) (fun _ _ h => h)) (ok_of HC.out) HB.out).mono ?_
      rintro e w2 ⟨rfl, hk⟩
      have hblk := Blk.kept (Blk.new rfl) hk (fun h => h)
      have q0 : w2.cell? ⟨w1.heap.size, 0, none⟩ = some (.int .i64 kind) := hblk.cell 0 _ rfl
      have q1 : w2.cell? ⟨w1.heap.size, 1, none⟩ = some (.int .i64 session) := hblk.cell 1 _ rfl
      have q2 : w2.cell? ⟨w1.heap.size, 2, none⟩ = some (.int .i64 req) := hblk.cell 2 _ rfl
      have q3 : w2.cell? ⟨w1.heap.size, 3, none⟩ = some (.int .i64 noted) := hblk.cell 3 _ rfl
      have q4 : w2.cell? ⟨w1.heap.size, 4, none⟩ = some (.slice A ops.length cap) := hblk.cell 4 _ rfl
      have q5 : w2.cell? ⟨w1.heap.size, 5, none⟩ = some (.string (S path)) := hblk.cell 5 _ rfl
      have q6 : w2.cell? ⟨w1.heap.size, 6, none⟩ = some (.bool kids) := hblk.cell 6 _ rfl
      have q7 : w2.cell? ⟨w1.heap.size, 7, none⟩ = some (.bool once) := hblk.cell 7 _ rfl
      replace HS := hide (HS.out.keep (((Keeps.refl (fun _ => False) w1).alloc _).trans' hk) (fun _ _ h => h))
      replace HK := hide ((HK.out.alloc _).trans' hk)
      clear hblk hk
      go_wp2_with fail
      refine (rule_eq _ ⟨kind, session, req, noted, ops, path, kids, once⟩ A cap HS.out HC.out).mono ?_
      rintro e w3 ⟨rfl, hk⟩
      replace HK := hide (HK.out.trans' hk)
      clear hk q0 q1 q2 q3 q4 q5 q6 q7
      go_wp2_with fail
      go_ret
      exact ⟨rfl, HF.out HK.out⟩
    · have hE := readF_none hr
      clear hr
      refine (read_eq _ s hs hE).mono ?_
      rintro e w1 ⟨A, cap, rfl, hsrc, hk⟩
      have HS := hide hsrc
      replace HK := hide (HK.out.trans' hk)
      clear hsrc hk hE
      go_wp2_with fail
      refine (same_eq _ noCmd noCmd _ _ _ _ (Src.nil _ _ _) (Src.nil _ _ _) (by decide) (by decide) (decide_eq_true rfl)).mono ?_
      rintro e w2 ⟨rfl, hk⟩
      replace HK := hide ((HK.out.alloc _).trans' hk)
      clear hk
      go_wp2_with fail
      go_ret
      exact ⟨rfl, HF.out HK.out⟩
  · go_wp2_with fail
    go_ret
    exact ⟨rfl, HF.out HK.out⟩

end Go.Proofs.Ytinpnnfeggjbeaa
