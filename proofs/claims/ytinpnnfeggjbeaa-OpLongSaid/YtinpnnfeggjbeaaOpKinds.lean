/- The law OpKinds, walked. No condition. -/
import Derived.Test.YtinpnnfeggjbeaaOpReads
set_option linter.unusedVariables false
namespace Go.Proofs.Ytinpnnfeggjbeaa
open Go.RowKit

theorem kinds_right (K D : Int) (k1 : 0 ≤ K) (d1 : 0 ≤ D) : cmdR (⟨K, 0, 0, 0, [⟨D, [47, 97], [], 0, false, false⟩], [], false, false⟩ : CmdT) = decide (K ≤ 5 ∧ 1 ≤ D ∧ D ≤ 4) := by
  rw [Bool.eq_iff_iff]
  simp [cmdR, numR, wrongF, opR, k1]
theorem kinds_ok (K D : Int) : CmdOk (⟨K, 0, 0, 0, [⟨D, [47, 97], [], 0, false, false⟩], [], false, false⟩ : CmdT) := by
  refine ⟨Nat.zero_le _, by simp, fun o ho => ?_⟩
  simp only [List.mem_singleton] at ho
  subst ho
  exact ⟨by simp, by simp⟩
theorem kinds_bytes (K D : Int) (h : cmdR (⟨K, 0, 0, 0, [⟨D, [47, 97], [], 0, false, false⟩], [], false, false⟩ : CmdT) = true) : ∃ s, bytesF (⟨K, 0, 0, 0, [⟨D, [47, 97], [], 0, false, false⟩], [], false, false⟩ : CmdT) = (s, 0) ∧ s.length ≤ 488 := by
  have hl : (cmdB (⟨K, 0, 0, 0, [⟨D, [47, 97], [], 0, false, false⟩], [], false, false⟩ : CmdT)).length ≤ 488 := by
    simp [cmdB, nums_length, opB, txts, txt_length, flags, cut16]
  refine ⟨cmdB (⟨K, 0, 0, 0, [⟨D, [47, 97], [], 0, false, false⟩], [], false, false⟩ : CmdT), ?_, hl⟩
  unfold bytesF
  rw [if_neg (by simp [h]), if_neg (by omega)]
theorem right_eq (w : World) (c : CmdT) (A : Option Addr) (cap : Nat) (h : OpSrc w A c.ops) (hok : CmdOk c) {b : Bool} (hb : cmdR c = b) :
    Calls Try.prog 29 #[cmdV c A cap] w fun e w' => e = .returned (.bool b) ∧ Keeps (fun _ => False) w w' := by
  have := right_cmd w c A cap h hok
  rw [hb] at this
  exact this
theorem right_op_eq (w : World) (o : OpT) (ho : OpOk o) {b : Bool} (hb : opR o = b) :
    Calls Try.prog 30 #[opV o] w fun e w' => e = .returned (.bool b) ∧ Keeps (fun _ => False) w w' := by
  subst hb
  refine (right_op w o ho.1 ho.2).mono ?_
  rintro e w' ⟨rfl, rfl⟩
  exact ⟨rfl, (Keeps.refl _ w).alloc _⟩

set_option maxRecDepth 100000 in
set_option maxHeartbeats 1000000 in
theorem kinds_walk (W : World) (kind does : Int) :
    Calls Try.prog 8 #[.int .i64 kind, .int .i64 does] W fun e w' => e = .returned (.bool true) ∧ Keeps (fun k => W.heap.size ≤ k) W w' := by
  have HF : Hid (∀ {w w' : World}, Keeps (fun _ => False) w w' → Keeps (fun k => w.heap.size ≤ k) w w') := fun h => h.mono (fun _ _ h => h.elim)
  obtain ⟨k1, k2⟩ : 0 ≤ bits .and .i64 kind 15 ∧ bits .and .i64 kind 15 ≤ 15 := and_le kind 15 (by decide)
  obtain ⟨d1, d2⟩ : 0 ≤ bits .and .i64 does 7 ∧ bits .and .i64 does 7 ≤ 7 := and_le does 7 (by decide)
  go_enter Try.func8, Try.ntmps8
  go_wp2_with fail
  refine (head_op W).mono ?_
  rintro e w0 ⟨rfl, hk0⟩
  have HK := hide hk0
  clear hk0
  go_wp2_with fail
  generalize bits .and .i64 kind 15 = K at *
  generalize bits .and .i64 does 7 = D at *
  have hR := kinds_right K D k1 d1
  have hO := hide (kinds_ok K D)
  have HS := hide (Src.block (heap_alloc_new w0 (.cells #[.int .i64 D, .string ⟨#[47, 97]⟩, .string ⟨#[]⟩, .int .i64 0, .bool false, .bool false] 52)) 6 1 rfl)
  by_cases hok : K ≤ 5 ∧ 1 ≤ D ∧ D ≤ 4
  · obtain ⟨g1, g2, g3⟩ := hok
    have hR1 : cmdR (⟨K, 0, 0, 0, [⟨D, [47, 97], [], 0, false, false⟩], [], false, false⟩ : CmdT) = true := by rw [hR]; simp [g1, g2, g3]
    obtain ⟨s, hb, hlen⟩ := kinds_bytes K D hR1
    have hrd := readF_of hb
    have HR := hide hR1
    have HD := hide hrd
    clear hR hR1 hrd
    refine (bytes_eq _ (⟨K, 0, 0, 0, [⟨D, [47, 97], [], 0, false, false⟩], [], false, false⟩ : CmdT) _ _ (HS.out.keep ((Keeps.refl (fun _ => False) _).alloc _) (fun _ _ h => h)) hO.out hb).mono ?_
    rintro e w1 ⟨rfl, hk⟩
    have HB := hide (Blk.kept (Blk.new (g := w0.heap.size + 1) (by simp)) hk (fun h => h))
    have HP := hide (Blk.kept ((Blk.new rfl).alloc _) hk (fun h => h))
    replace HS := hide (HS.out.keep (((Keeps.refl (fun _ => False) _).alloc _).trans' hk) (fun _ _ h => h))
    replace HK := hide (((HK.out.alloc _).alloc _).trans' hk)
    clear hk hb
    go_wp2_with fail
    refine (read_eq _ s (by omega) HD.out).mono ?_
    rintro e w2 ⟨B, cb, rfl, hsb, hk⟩
    have HSB := hide hsb
    replace HS := hide (HS.out.keep hk (fun _ _ h => h))
    replace HB := hide (HB.out.kept hk (fun h => h))
    replace HP := hide (HP.out.kept hk (fun h => h))
    replace HK := hide (HK.out.trans' hk)
    clear hk hsb
    go_upto_region 11 with fail
    have q0 : (w2.alloc (.cells #[.int .i64 K, .int .i64 0, .int .i64 0, .int .i64 0, .slice B 1 cb, .string (S []), .bool false, .bool false] 43)).cell? ⟨w0.heap.size + 1, 0, none⟩ = some (.int .i64 K) := (HB.out.alloc _).cell 0 _ rfl
    have q1 : (w2.alloc (.cells #[.int .i64 K, .int .i64 0, .int .i64 0, .int .i64 0, .slice B 1 cb, .string (S []), .bool false, .bool false] 43)).cell? ⟨w0.heap.size + 1, 1, none⟩ = some (.int .i64 0) := (HB.out.alloc _).cell 1 _ rfl
    have q2 : (w2.alloc (.cells #[.int .i64 K, .int .i64 0, .int .i64 0, .int .i64 0, .slice B 1 cb, .string (S []), .bool false, .bool false] 43)).cell? ⟨w0.heap.size + 1, 2, none⟩ = some (.int .i64 0) := (HB.out.alloc _).cell 2 _ rfl
    have q3 : (w2.alloc (.cells #[.int .i64 K, .int .i64 0, .int .i64 0, .int .i64 0, .slice B 1 cb, .string (S []), .bool false, .bool false] 43)).cell? ⟨w0.heap.size + 1, 3, none⟩ = some (.int .i64 0) := (HB.out.alloc _).cell 3 _ rfl
    have q4 : (w2.alloc (.cells #[.int .i64 K, .int .i64 0, .int .i64 0, .int .i64 0, .slice B 1 cb, .string (S []), .bool false, .bool false] 43)).cell? ⟨w0.heap.size + 1, 4, none⟩ = some (.slice (some ⟨w0.heap.size, 0, none⟩) 1 1) := (HB.out.alloc _).cell 4 _ rfl
    have q5 : (w2.alloc (.cells #[.int .i64 K, .int .i64 0, .int .i64 0, .int .i64 0, .slice B 1 cb, .string (S []), .bool false, .bool false] 43)).cell? ⟨w0.heap.size + 1, 5, none⟩ = some (.string ⟨#[]⟩) := (HB.out.alloc _).cell 5 _ rfl
    have q6 : (w2.alloc (.cells #[.int .i64 K, .int .i64 0, .int .i64 0, .int .i64 0, .slice B 1 cb, .string (S []), .bool false, .bool false] 43)).cell? ⟨w0.heap.size + 1, 6, none⟩ = some (.bool false) := (HB.out.alloc _).cell 6 _ rfl
    have q7 : (w2.alloc (.cells #[.int .i64 K, .int .i64 0, .int .i64 0, .int .i64 0, .slice B 1 cb, .string (S []), .bool false, .bool false] 43)).cell? ⟨w0.heap.size + 1, 7, none⟩ = some (.bool false) := (HB.out.alloc _).cell 7 _ rfl
    go_wp2_with fail
    refine (same_eq _ (⟨K, 0, 0, 0, [⟨D, [47, 97], [], 0, false, false⟩], [], false, false⟩ : CmdT) (⟨K, 0, 0, 0, [⟨D, [47, 97], [], 0, false, false⟩], [], false, false⟩ : CmdT) _ _ _ _ (HSB.out.keep ((Keeps.refl (fun _ => False) w2).alloc _) (fun _ _ h => h)) (HS.out.keep ((Keeps.refl (fun _ => False) w2).alloc _) (fun _ _ h => h)) (by simp) (by simp) (decide_eq_true rfl)).mono ?_
    rintro e w3 ⟨rfl, hk⟩
    clear q0 q1 q2 q3 q4 q5 q6 q7
    replace HB := hide ((HB.out.alloc _).kept hk (fun h => h))
    replace HP := hide ((HP.out.alloc _).kept hk (fun h => h))
    replace HS := hide (HS.out.keep (((Keeps.refl (fun _ => False) w2).alloc _).trans' hk) (fun _ _ h => h))
    replace HK := hide ((HK.out.alloc _).trans' hk)
    clear hk
    have q0 : (w3).cell? ⟨w0.heap.size + 1, 0, none⟩ = some (.int .i64 K) := (HB.out).cell 0 _ rfl
    have q1 : (w3).cell? ⟨w0.heap.size + 1, 1, none⟩ = some (.int .i64 0) := (HB.out).cell 1 _ rfl
    have q2 : (w3).cell? ⟨w0.heap.size + 1, 2, none⟩ = some (.int .i64 0) := (HB.out).cell 2 _ rfl
    have q3 : (w3).cell? ⟨w0.heap.size + 1, 3, none⟩ = some (.int .i64 0) := (HB.out).cell 3 _ rfl
    have q4 : (w3).cell? ⟨w0.heap.size + 1, 4, none⟩ = some (.slice (some ⟨w0.heap.size, 0, none⟩) 1 1) := (HB.out).cell 4 _ rfl
    have q5 : (w3).cell? ⟨w0.heap.size + 1, 5, none⟩ = some (.string ⟨#[]⟩) := (HB.out).cell 5 _ rfl
    have q6 : (w3).cell? ⟨w0.heap.size + 1, 6, none⟩ = some (.bool false) := (HB.out).cell 6 _ rfl
    have q7 : (w3).cell? ⟨w0.heap.size + 1, 7, none⟩ = some (.bool false) := (HB.out).cell 7 _ rfl
    go_wp2_with fail
    refine (right_eq _ (⟨K, 0, 0, 0, [⟨D, [47, 97], [], 0, false, false⟩], [], false, false⟩ : CmdT) _ _ HS.out hO.out HR.out).mono ?_
    rintro e w4 ⟨rfl, hk⟩
    clear q0 q1 q2 q3 q4 q5 q6 q7
    replace HB := hide (HB.out.kept hk (fun h => h))
    replace HP := hide (HP.out.kept hk (fun h => h))
    replace HK := hide (HK.out.trans' hk)
    clear hk
    have q4 : w4.cell? ⟨w0.heap.size + 1, 4, none⟩ = some (.slice (some ⟨w0.heap.size, 0, none⟩) 1 1) := HB.out.cell 4 _ rfl
    have p0 : (w4).cell? ⟨w0.heap.size, 0, none⟩ = some (.int .i64 D) := (HP.out).cell 0 _ rfl
    have p1 : (w4).cell? ⟨w0.heap.size, 1, none⟩ = some (.string ⟨#[47, 97]⟩) := (HP.out).cell 1 _ rfl
    have p2 : (w4).cell? ⟨w0.heap.size, 2, none⟩ = some (.string ⟨#[]⟩) := (HP.out).cell 2 _ rfl
    have p3 : (w4).cell? ⟨w0.heap.size, 3, none⟩ = some (.int .i64 0) := (HP.out).cell 3 _ rfl
    have p4 : (w4).cell? ⟨w0.heap.size, 4, none⟩ = some (.bool false) := (HP.out).cell 4 _ rfl
    have p5 : (w4).cell? ⟨w0.heap.size, 5, none⟩ = some (.bool false) := (HP.out).cell 5 _ rfl
    go_wp2_with fail
    refine (right_op_eq _ ⟨D, [47, 97], [], 0, false, false⟩ ⟨by simp, by simp⟩ (b := true) (by simp [opR, g2, g3])).mono ?_
    rintro e w5 ⟨rfl, hk⟩
    replace HK := hide (HK.out.trans' hk)
    clear hk
    go_wp2_with fail
    go_ret
    exact ⟨rfl, HF.out HK.out⟩
  · have hR1 : cmdR (⟨K, 0, 0, 0, [⟨D, [47, 97], [], 0, false, false⟩], [], false, false⟩ : CmdT) = false := by rw [hR]; simpa using hok
    have hb : bytesF (⟨K, 0, 0, 0, [⟨D, [47, 97], [], 0, false, false⟩], [], false, false⟩ : CmdT) = ([], 1) := by simp [bytesF, hR1]
    have HR := hide hR1
    clear hR hR1
    refine (bytes_eq _ (⟨K, 0, 0, 0, [⟨D, [47, 97], [], 0, false, false⟩], [], false, false⟩ : CmdT) _ _ (HS.out.keep ((Keeps.refl (fun _ => False) _).alloc _) (fun _ _ h => h)) hO.out hb).mono ?_
    rintro e w1 ⟨rfl, hk⟩
    have HB := hide (Blk.kept (Blk.new (g := w0.heap.size + 1) (by simp)) hk (fun h => h))
    replace HS := hide (HS.out.keep (((Keeps.refl (fun _ => False) _).alloc _).trans' hk) (fun _ _ h => h))
    replace HK := hide (((HK.out.alloc _).alloc _).trans' hk)
    clear hk hb
    have q0 : (w1).cell? ⟨w0.heap.size + 1, 0, none⟩ = some (.int .i64 K) := (HB.out).cell 0 _ rfl
    have q1 : (w1).cell? ⟨w0.heap.size + 1, 1, none⟩ = some (.int .i64 0) := (HB.out).cell 1 _ rfl
    have q2 : (w1).cell? ⟨w0.heap.size + 1, 2, none⟩ = some (.int .i64 0) := (HB.out).cell 2 _ rfl
    have q3 : (w1).cell? ⟨w0.heap.size + 1, 3, none⟩ = some (.int .i64 0) := (HB.out).cell 3 _ rfl
    have q4 : (w1).cell? ⟨w0.heap.size + 1, 4, none⟩ = some (.slice (some ⟨w0.heap.size, 0, none⟩) 1 1) := (HB.out).cell 4 _ rfl
    have q5 : (w1).cell? ⟨w0.heap.size + 1, 5, none⟩ = some (.string ⟨#[]⟩) := (HB.out).cell 5 _ rfl
    have q6 : (w1).cell? ⟨w0.heap.size + 1, 6, none⟩ = some (.bool false) := (HB.out).cell 6 _ rfl
    have q7 : (w1).cell? ⟨w0.heap.size + 1, 7, none⟩ = some (.bool false) := (HB.out).cell 7 _ rfl
    rcases (show 5 < K ∨ (K ≤ 5 ∧ D < 1) ∨ (K ≤ 5 ∧ 1 ≤ D ∧ 4 < D ∧ (!decide (D ≤ 4)) = true) by simp; omega) with g1 | ⟨g1, g2⟩ | ⟨g1, g2, g3, g4⟩
    all_goals
      clear hok
      go_wp2_with fail
      all_goals first
        | (refine (right_eq _ (⟨K, 0, 0, 0, [⟨D, [47, 97], [], 0, false, false⟩], [], false, false⟩ : CmdT) _ _ HS.out hO.out HR.out).mono ?_
           rintro e w4 ⟨rfl, hk⟩
           replace HK := hide (HK.out.trans' hk)
           clear hk q0 q1 q2 q3 q4 q5 q6 q7
           go_wp2_with fail
           go_ret
           exact ⟨rfl, HF.out HK.out⟩)

end Go.Proofs.Ytinpnnfeggjbeaa
