/- Lists of commands: how they lie and are read; whether few; those that follow each other, walked. No condition. -/
import Derived.Test.YtanlobdidjednaaGreatDoorStAcc
import Derived.Test.YtanlobdidjednaaGreatDoorFewO
import Derived.Test.YtanlobdidjednaaGreatDoorDecOp
set_option linter.unusedVariables false
set_option linter.unusedSimpArgs false
namespace Go.Proofs.YtanlobdidjednaaGreatDoor
open Go.RowKit

/-- a command, and where its operations lie -/
abbrev CQ := CmdT × Option Addr × Nat
def cqL (q : CQ) : List Value := cmdL q.1 q.2.1 q.2.2
def CqOk (w : World) (q : CQ) : Prop := OpSrc w q.2.1 q.1.ops ∧ CmdOk q.1
theorem cqs_at {w : World} {A : Option Addr} {qs : List CQ} (h : Src w 8 A qs.length (qs.flatMap cqL)) {k : Nat} (hk : k < qs.length) :
    ∃ ad q, A = some ad ∧ qs[k]? = some q ∧ w.cell? (ad.add (k * 8)) = some (.int .i64 q.1.kind) ∧ w.cell? ⟨(ad.add (k * 8)).block, (ad.add (k * 8)).off + 1, none⟩ = some (.int .i64 q.1.session) ∧ w.cell? ⟨(ad.add (k * 8)).block, (ad.add (k * 8)).off + 2, none⟩ = some (.int .i64 q.1.req) ∧
      w.cell? ⟨(ad.add (k * 8)).block, (ad.add (k * 8)).off + 3, none⟩ = some (.int .i64 q.1.noted) ∧ w.cell? ⟨(ad.add (k * 8)).block, (ad.add (k * 8)).off + 4, none⟩ = some (.slice q.2.1 q.1.ops.length q.2.2) ∧ w.cell? ⟨(ad.add (k * 8)).block, (ad.add (k * 8)).off + 5, none⟩ = some (.string (S q.1.path)) ∧
      w.cell? ⟨(ad.add (k * 8)).block, (ad.add (k * 8)).off + 6, none⟩ = some (.bool q.1.kids) ∧ w.cell? ⟨(ad.add (k * 8)).block, (ad.add (k * 8)).off + 7, none⟩ = some (.bool q.1.once) := by
  obtain ⟨ad, e, hc⟩ := h.2 (by omega)
  have ha := List.getElem?_eq_getElem hk
  have hf := flat_at cqL 8 (fun _ => rfl) qs k _ ha
  refine ⟨ad, qs[k], e, ha, hc _ _ (hf 0 _ rfl), ?_, ?_, ?_, ?_, ?_, ?_, ?_⟩
  · rw [← add_succ, add_add]; exact hc _ _ (hf 1 _ rfl)
  · rw [← add_succ, add_add]; exact hc _ _ (hf 2 _ rfl)
  · rw [← add_succ, add_add]; exact hc _ _ (hf 3 _ rfl)
  · rw [← add_succ, add_add]; exact hc _ _ (hf 4 _ rfl)
  · rw [← add_succ, add_add]; exact hc _ _ (hf 5 _ rfl)
  · rw [← add_succ, add_add]; exact hc _ _ (hf 6 _ rfl)
  · rw [← add_succ, add_add]; exact hc _ _ (hf 7 _ rfl)

set_option maxRecDepth 100000 in
set_option maxHeartbeats 2000000 in
theorem few_cmds (w : World) (qs : List CQ) (A : Option Addr) (cap : Nat) (h : Src w 8 A qs.length (qs.flatMap cqL)) (hok : ∀ q ∈ qs, CqOk w q) (hl : qs.length ≤ 9223372036854775807) :
    Calls Tryz.prog 5 #[.slice A qs.length cap] w fun e w' => (e = .returned (.bool false) ∨ (e = .returned (.bool true) ∧ qs.length ≤ 40)) ∧ Keeps (fun _ => False) w w' := by
  have HO := hide hok
  clear hok
  go_enter Tryz.func5, Tryz.ntmps5
  go_wp2_with fail
  go_loopw [7] (fun i wr => ∃ k : Nat, k ≤ qs.length ∧ i = .int .i64 k ∧ Keeps (fun _ => False) w wr) (fun i _ => qs.length - (RowKit.intOf i).toNat)
  case atStart => exact ⟨0, by omega, rfl, Keeps.refl _ _⟩
  case round =>
    obtain ⟨k, hk, rfl, hK⟩ := hrel
    have HK := hide hK
    clear hK
    by_cases hlt : k < qs.length
    · obtain ⟨ad, q, rfl, hx, c0, c1, c2, c3, c4, c5, c6, c7⟩ := cqs_at (h.keep HK.out (fun _ _ h => h)) hlt
      have hq := HO.out q (List.mem_of_getElem? hx)
      obtain ⟨⟨kd, ss, rq, nt, ops, pa, ki, oc⟩, A1, cap1⟩ := q
      obtain ⟨hq1, hq2⟩ := hq
      simp only at c0 c1 c2 c3 c4 c5 c6 c7 hq1 hq2
      have HF : Hid (∀ w', Keeps (fun _ => False) w w' → Calls Tryz.prog 15 #[.agg #[.int .i64 kd, .int .i64 ss, .int .i64 rq, .int .i64 nt, .slice A1 ops.length cap1, .string (S pa), .bool ki, .bool oc]] w' fun e w2 => (∃ x, e = .returned (.bool x)) ∧ Keeps (fun _ => False) w w2) := hide fun w' hk' => by
        refine (few_cmd w' ⟨kd, ss, rq, nt, ops, pa, ki, oc⟩ A1 cap1 (hq1.keep hk' (fun _ _ h => h)) hq2).mono ?_
        rintro e w2 ⟨h1 | ⟨h1, -⟩, h2⟩
        · exact ⟨⟨_, h1⟩, hk'.trans' h2⟩
        · exact ⟨⟨_, h1⟩, hk'.trans' h2⟩
      have S1 := (Sat.start wr).box #[.int .i64 kd, .int .i64 ss, .int .i64 rq, .int .i64 nt, .slice A1 ops.length cap1, .string (S pa), .bool ki, .bool oc] 35 rfl
      have x0 := S1.cell 0 _ rfl
      have x1 := S1.cell 1 _ rfl
      have x2 := S1.cell 2 _ rfl
      have x3 := S1.cell 3 _ rfl
      have x4 := S1.cell 4 _ rfl
      have x5 := S1.cell 5 _ rfl
      have x6 := S1.cell 6 _ rfl
      have x7 := S1.cell 7 _ rfl
      have HK1 := hide (HK.out.trans' S1.p1.keep_all)
      clear S1 hx hq1 hq2
      go_upto_region 4 with fail
      generalize wr.alloc (.cells #[.int .i64 kd, .int .i64 ss, .int .i64 rq, .int .i64 nt, .slice A1 ops.length cap1, .string (S pa), .bool ki, .bool oc] 35) = w1 at *
      generalize wr.heap.size = cb at *
      go_wp2_with fail
      refine (HF.out _ HK1.out).mono ?_
      rintro e w2 ⟨⟨x, rfl⟩, hk2⟩
      have HK2 := hide hk2
      clear hk2 x0 x1 x2 x3 x4 x5 x6 x7 c0 c1 c2 c3 c4 c5 c6 c7
      cases x
      · go_wp2_with fail
        go_ret
        exact ⟨.inl rfl, HK2.out⟩
      · go_wp2_with fail
        go_roundw
        case rel => exact ⟨k + 1, by omega, by go_num, HK2.out⟩
        case measure => simp [RowKit.intOf]; omega
    · obtain rfl : k = qs.length := by omega
      have hx : Hid (Keeps (fun _ => False) w wr) := HK
      by_cases h40 : qs.length ≤ 40
      · have h41 : (qs.length : Int) ≤ 40 := by omega
        go_wp2_with fail
        go_ret
        exact ⟨.inr ⟨by simp [h41], h40⟩, hx.out⟩
      · have h41 : ¬ (qs.length : Int) ≤ 40 := by omega
        go_wp2_with fail
        go_ret
        exact ⟨rfl, hx.out⟩

theorem CqOk.keep {W w : World} {q : CQ} (h : CqOk W q) (hk : Keeps (fun _ => False) W w) : CqOk w q := ⟨h.1.keep hk (fun _ _ h => h), h.2⟩
theorem s_fewq {W w : World} {L : List Asn} (S0 : Sat W w L) (hm : oldA W ∈ L) (qs : List CQ) (A : Option Addr) (cap : Nat) (h : Src W 8 A qs.length (qs.flatMap cqL)) (hok : ∀ q ∈ qs, CqOk W q) (hl : qs.length ≤ 9223372036854775807) :
    Calls Tryz.prog 5 #[.slice A qs.length cap] w fun e w' => (e = .returned (.bool false) ∨ (e = .returned (.bool true) ∧ qs.length ≤ 40)) ∧ Sat W w' L := by
  obtain ⟨L2, S2⟩ := S0.mem_ hm
  refine (few_cmds w qs A cap (h.keep S2.keep_all (fun _ _ h => h)) (fun q hq => (hok q hq).keep S2.keep_all) hl).mono ?_
  rintro e w' ⟨h1, h2⟩
  exact ⟨h1, S0.keep h2⟩
theorem s_textq {W w : World} {L : List Asn} (S0 : Sat W w L) (hm : oldA W ∈ L) {q : CQ} (hq : CqOk W q) :
    Calls Tryz.prog 18 #[cmdV q.1 q.2.1 q.2.2] w fun e w' => e = .returned (.string (S (bytesF q.1).1)) ∧ Sat W w' L := by
  obtain ⟨L2, S2⟩ := S0.mem_ hm
  have := hq.keep S2.keep_all
  exact s_textc S0 q.1 q.2.1 q.2.2 this.1 this.2
theorem s_atq {W w : World} {L : List Asn} (S0 : Sat W w L) (hm : oldA W ∈ L) {qs : List CQ} {A : Option Addr} (h : Src W 8 A qs.length (qs.flatMap cqL)) : Src w 8 A qs.length (qs.flatMap cqL) := by
  obtain ⟨L2, S2⟩ := S0.mem_ hm
  exact h.keep S2.keep_all (fun _ _ h => h)
theorem slCmd : Sl Tryz.prog 22 35 8 80 (.agg #[.int .i64 0, .int .i64 0, .int .i64 0, .int .i64 0, .slice none 0 0, .string ⟨#[]⟩, .bool false, .bool false]) := .mk' Tryz.underlying22 (by kernel_rfl) rfl (by decide)

theorem cq_snoc {W : World} {l : List CQ} {q : CQ} (h : ∀ x ∈ l, CqOk W x) (hq : CqOk W q) : ∀ x ∈ l ++ [q], CqOk W x := by
  intro x hx
  rcases List.mem_append.1 hx with hx | hx
  · exact h x hx
  · simp only [List.mem_singleton] at hx
    rw [hx]; exact hq
set_option maxRecDepth 100000 in
set_option maxHeartbeats 8000000 in
theorem cmds_walk {W w : World} {L : List Asn} (S0 : Sat W w L) (hm : oldA W ∈ L) (A : Option Addr) (qs : List CQ) (c : Nat) (hs : Src W 8 A qs.length (qs.flatMap cqL)) (hok : ∀ q ∈ qs, CqOk W q) (hl : qs.length ≤ 40) :
    Calls Tryz.prog 17 #[.slice A qs.length c] w fun e w' => ∃ (A2 : Option Addr) (c2 : Nat) (qs2 : List CQ), e = .returned (.slice A2 qs2.length c2) ∧ qs2.length = qs.length + 3 ∧ (∀ q ∈ qs2, CqOk W q) ∧ Sat W w' (rowA 35 8 (.slice A2 qs2.length c2) qs2.length (qs2.flatMap cqL) :: L) := by
  have HO := hide hok
  have HAT : Hid (∀ (wr : World) (L' : List Asn) (k : Nat), Sat W wr L' → oldA W ∈ L' → k < qs.length → ∃ ad q, A = some ad ∧ qs[k]? = some q ∧ wr.cell? (ad.add (k * 8)) = some (.int .i64 q.1.kind) ∧ wr.cell? ⟨(ad.add (k * 8)).block, (ad.add (k * 8)).off + 1, none⟩ = some (.int .i64 q.1.session) ∧ wr.cell? ⟨(ad.add (k * 8)).block, (ad.add (k * 8)).off + 2, none⟩ = some (.int .i64 q.1.req) ∧
      wr.cell? ⟨(ad.add (k * 8)).block, (ad.add (k * 8)).off + 3, none⟩ = some (.int .i64 q.1.noted) ∧ wr.cell? ⟨(ad.add (k * 8)).block, (ad.add (k * 8)).off + 4, none⟩ = some (.slice q.2.1 q.1.ops.length q.2.2) ∧ wr.cell? ⟨(ad.add (k * 8)).block, (ad.add (k * 8)).off + 5, none⟩ = some (.string (S q.1.path)) ∧
      wr.cell? ⟨(ad.add (k * 8)).block, (ad.add (k * 8)).off + 6, none⟩ = some (.bool q.1.kids) ∧ wr.cell? ⟨(ad.add (k * 8)).block, (ad.add (k * 8)).off + 7, none⟩ = some (.bool q.1.once)) := hide fun wr L' k S' h hk => by
    obtain ⟨L2, S2⟩ := S'.mem_ h
    exact cqs_at (hs.keep S2.keep_all (fun _ _ h => h)) hk
  clear hs hok
  go_enter Tryz.func17, Tryz.ntmps17
  go_upto_region 2 with fail
  have S1 := (S0.box #[.int .i64 1, .int .i64 1, .int .i64 0, .int .i64 0, .slice none 0 0, .string ⟨#[]⟩, .bool false, .bool false, .int .i64 1, .int .i64 2, .int .i64 0, .int .i64 0, .slice none 0 0, .string ⟨#[]⟩, .bool false, .bool false, .int .i64 1, .int .i64 3, .int .i64 0, .int .i64 0, .slice none 0 0, .string ⟨#[]⟩, .bool false, .bool false] 35 rfl).rowOf 8 3 rfl (by unfold maxLen; omega)
  generalize w.alloc (.cells #[.int .i64 1, .int .i64 1, .int .i64 0, .int .i64 0, .slice none 0 0, .string ⟨#[]⟩, .bool false, .bool false, .int .i64 1, .int .i64 2, .int .i64 0, .int .i64 0, .slice none 0 0, .string ⟨#[]⟩, .bool false, .bool false, .int .i64 1, .int .i64 3, .int .i64 0, .int .i64 0, .slice none 0 0, .string ⟨#[]⟩, .bool false, .bool false] 35) = w1 at *
  generalize w.heap.size = ob at *
  clear S0
  go_upto_region 3 with fail
  have S2 := S1.box #[.int .i64 0, .int .i64 0, .int .i64 0] 3 rfl
  generalize w1.alloc (.cells #[.int .i64 0, .int .i64 0, .int .i64 0] 3) = w2 at *
  generalize w1.heap.size = rb at *
  clear S1
  have S3 : Sat W w2 (cellsA rb 3 #[.int .i64 0, .int .i64 0, .int .i64 0] :: rowA 35 8 (.slice (some ⟨ob, 0, none⟩) (0 + 3) 3) (0 + 3) (([(openC 1, none, 0), (openC 2, none, 0), (openC 3, none, 0)] : List CQ).flatMap cqL) :: L) := S2
  have hq0 : ∀ q ∈ ([(openC 1, none, 0), (openC 2, none, 0), (openC 3, none, 0)] : List CQ), CqOk W q := by
    intro q hq
    simp only [List.mem_cons, List.not_mem_nil, or_false] at hq
    rcases hq with rfl | rfl | rfl <;> exact ⟨Src.nil _ _ _, by simp [CmdOk, openC]⟩
  have hl0 : ([(openC 1, none, 0), (openC 2, none, 0), (openC 3, none, 0)] : List CQ).length = 0 + 3 := rfl
  generalize ([(openC 1, none, 0), (openC 2, none, 0), (openC 3, none, 0)] : List CQ) = q0 at *
  clear S2
  go_wp2_with fail
  go_loopw [3, 15] (fun v i wr => ∃ k : Nat, k ≤ qs.length ∧ i = .int .i64 (k : Int) ∧ ∃ (A2 : Option Addr) (c2 : Nat) (qs2 : List CQ) (r0 r1 r2 : Int), v = .slice A2 (k + 3) c2 ∧ qs2.length = k + 3 ∧ (∀ q ∈ qs2, CqOk W q) ∧ Sat W wr (cellsA rb 3 #[.int .i64 r0, .int .i64 r1, .int .i64 r2] :: rowA 35 8 (.slice A2 (k + 3) c2) (k + 3) (qs2.flatMap cqL) :: L)) (fun _ i _ => qs.length - (RowKit.intOf i).toNat)
  case atStart => exact ⟨0, by omega, rfl, _, _, q0, 0, 0, 0, rfl, hl0, hq0, S3⟩
  case round =>
    obtain ⟨k, hk, rfl, A2, c2, qs2, r0, r1, r2, rfl, hl2, hq2, S4⟩ := hrel
    clear S3 hq0 hl0
    have HQ2 := hide hq2
    clear hq2
    by_cases hlt : k < qs.length
    · obtain ⟨ad, q, rfl, hx, c0, c1, c2', c3, c4, c5, c6, c7⟩ := HAT.out wr _ k S4 (by simp [hm]) hlt
      have hq := HO.out q (List.mem_of_getElem? hx)
      obtain ⟨⟨kd, ss, rq, nt, ops, pa, ki, oc⟩, A1, cap1⟩ := q
      have HQ := hide hq
      simp only at c0 c1 c2' c3 c4 c5 c6 c7
      have S5 := S4.box #[.int .i64 kd, .int .i64 ss, .int .i64 rq, .int .i64 nt, .slice A1 ops.length cap1, .string (S pa), .bool ki, .bool oc] 35 rfl
      have x0 := S5.cell 0 _ rfl
      have x1 := S5.cell 1 _ rfl
      have x2 := S5.cell 2 _ rfl
      have x3 := S5.cell 3 _ rfl
      have x4 := S5.cell 4 _ rfl
      have x5 := S5.cell 5 _ rfl
      have x6 := S5.cell 6 _ rfl
      have x7 := S5.cell 7 _ rfl
      clear hx hq
      go_upto_region 6 with fail
      generalize wr.alloc (.cells #[.int .i64 kd, .int .i64 ss, .int .i64 rq, .int .i64 nt, .slice A1 ops.length cap1, .string (S pa), .bool ki, .bool oc] 35) = w5 at *
      generalize wr.heap.size = cb at *
      clear S4 c0 c1 c2' c3 c4 c5 c6 c7
      obtain ⟨K0, K3⟩ : 0 ≤ bits .and .i64 ss 3 ∧ bits .and .i64 ss 3 ≤ 3 := and_le ss 3 (by decide)
      go_upto_region 7 with fail
      by_cases p0 : kd = 0
      · subst p0
        go_wp2_with (at_builtin; refine wpList_sapp slCmd rfl (.tmp 54) (.tmp 56) rfl (g := W) (S := (S5.box #[.int .i64 0, .int .i64 ss, .int .i64 rq, .int .i64 nt, .slice A1 ops.length cap1, .string (S pa), .bool ki, .bool oc] 35 rfl).p3) rfl (Src.block (heap_alloc_new _ _) 8 1 rfl) rfl (by simp [Value.oneCell']) (by unfold maxLen; omega) (by omega) ?_; intro A9 c9 w9 S9)
        have S10 : Sat W w9 (cellsA rb 3 #[.int .i64 r0, .int .i64 r1, .int .i64 r2] :: rowA 35 8 (.slice A9 (k + 3 + 1) c9) (k + 3 + 1) ((qs2 ++ ([(⟨0, ss, rq, nt, ops, pa, ki, oc⟩, A1, cap1)] : List CQ)).flatMap cqL) :: L) := by
          rw [List.flatMap_append]
          exact (S9.p1.drop.p1.drop).p1
        have HQ3 := hide (cq_snoc HQ2.out (show CqOk W (⟨0, ss, rq, nt, ops, pa, ki, oc⟩, A1, cap1) from HQ.out))
        clear S5 S9
        go_wp2_with fail
        go_roundw
        case rel => exact ⟨k + 1, by omega, by go_num, A9, c9, _, _, _, _, (by rw [show k + 1 + 3 = k + 3 + 1 by omega]), by rw [List.length_append, hl2]; rfl, HQ3.out, (by rw [show k + 1 + 3 = k + 3 + 1 by omega]; exact S10)⟩
        case measure => simp [RowKit.intOf]; omega
      have q0 : (kd != 0) = true := by simpa using p0
      by_cases p1 : kd = 1
      · subst p1
        go_wp2_with (at_builtin; refine wpList_sapp slCmd rfl (.tmp 54) (.tmp 56) rfl (g := W) (S := (S5.box #[.int .i64 1, .int .i64 ss, .int .i64 rq, .int .i64 nt, .slice A1 ops.length cap1, .string (S pa), .bool ki, .bool oc] 35 rfl).p3) rfl (Src.block (heap_alloc_new _ _) 8 1 rfl) rfl (by simp [Value.oneCell']) (by unfold maxLen; omega) (by omega) ?_; intro A9 c9 w9 S9)
        have S10 : Sat W w9 (cellsA rb 3 #[.int .i64 r0, .int .i64 r1, .int .i64 r2] :: rowA 35 8 (.slice A9 (k + 3 + 1) c9) (k + 3 + 1) ((qs2 ++ ([(⟨1, ss, rq, nt, ops, pa, ki, oc⟩, A1, cap1)] : List CQ)).flatMap cqL) :: L) := by
          rw [List.flatMap_append]
          exact (S9.p1.drop.p1.drop).p1
        have HQ3 := hide (cq_snoc HQ2.out (show CqOk W (⟨1, ss, rq, nt, ops, pa, ki, oc⟩, A1, cap1) from HQ.out))
        clear S5 S9
        go_wp2_with fail
        go_roundw
        case rel => exact ⟨k + 1, by omega, by go_num, A9, c9, _, _, _, _, (by rw [show k + 1 + 3 = k + 3 + 1 by omega]), by rw [List.length_append, hl2]; rfl, HQ3.out, (by rw [show k + 1 + 3 = k + 3 + 1 by omega]; exact S10)⟩
        case measure => simp [RowKit.intOf]; omega
      have q1 : (kd != 1) = true := by simpa using p1
      generalize hKK : bits .and .i64 ss 3 = K at *
      clear hKK
      by_cases p2 : K < 3
      rotate_left
      · have p3 : ¬ K < 3 := p2
        go_wp2_with (at_builtin; refine wpList_sapp slCmd rfl (.tmp 54) (.tmp 56) rfl (g := W) (S := (S5.box #[.int .i64 kd, .int .i64 ss, .int .i64 rq, .int .i64 nt, .slice A1 ops.length cap1, .string (S pa), .bool ki, .bool oc] 35 rfl).p3) rfl (Src.block (heap_alloc_new _ _) 8 1 rfl) rfl (by simp [Value.oneCell']) (by unfold maxLen; omega) (by omega) ?_; intro A9 c9 w9 S9)
        have S10 : Sat W w9 (cellsA rb 3 #[.int .i64 r0, .int .i64 r1, .int .i64 r2] :: rowA 35 8 (.slice A9 (k + 3 + 1) c9) (k + 3 + 1) ((qs2 ++ ([(⟨kd, ss, rq, nt, ops, pa, ki, oc⟩, A1, cap1)] : List CQ)).flatMap cqL) :: L) := by
          rw [List.flatMap_append]
          exact (S9.p1.drop.p1.drop).p1
        have HQ3 := hide (cq_snoc HQ2.out (show CqOk W (⟨kd, ss, rq, nt, ops, pa, ki, oc⟩, A1, cap1) from HQ.out))
        clear S5 S9
        go_wp2_with fail
        go_roundw
        case rel => exact ⟨k + 1, by omega, by go_num, A9, c9, _, _, _, _, (by rw [show k + 1 + 3 = k + 3 + 1 by omega]), by rw [List.length_append, hl2]; rfl, HQ3.out, (by rw [show k + 1 + 3 = k + 3 + 1 by omega]; exact S10)⟩
        case measure => simp [RowKit.intOf]; omega
      by_cases p3 : bits .and .i64 rq 7 = 0
      · have q3 : (bits .and .i64 rq 7 != 0) = false := by simp [p3]
        go_wp2_with (at_builtin; refine wpList_sapp slCmd rfl (.tmp 54) (.tmp 56) rfl (g := W) (S := (S5.box #[.int .i64 kd, .int .i64 ss, .int .i64 rq, .int .i64 nt, .slice A1 ops.length cap1, .string (S pa), .bool ki, .bool oc] 35 rfl).p3) rfl (Src.block (heap_alloc_new _ _) 8 1 rfl) rfl (by simp [Value.oneCell']) (by unfold maxLen; omega) (by omega) ?_; intro A9 c9 w9 S9)
        have S10 : Sat W w9 (cellsA rb 3 #[.int .i64 r0, .int .i64 r1, .int .i64 r2] :: rowA 35 8 (.slice A9 (k + 3 + 1) c9) (k + 3 + 1) ((qs2 ++ ([(⟨kd, ss, rq, nt, ops, pa, ki, oc⟩, A1, cap1)] : List CQ)).flatMap cqL) :: L) := by
          rw [List.flatMap_append]
          exact (S9.p1.drop.p1.drop).p1
        have HQ3 := hide (cq_snoc HQ2.out (show CqOk W (⟨kd, ss, rq, nt, ops, pa, ki, oc⟩, A1, cap1) from HQ.out))
        clear S5 S9
        go_wp2_with fail
        go_roundw
        case rel => exact ⟨k + 1, by omega, by go_num, A9, c9, _, _, _, _, (by rw [show k + 1 + 3 = k + 3 + 1 by omega]), by rw [List.length_append, hl2]; rfl, HQ3.out, (by rw [show k + 1 + 3 = k + 3 + 1 by omega]; exact S10)⟩
        case measure => simp [RowKit.intOf]; omega
      have q3 : (bits .and .i64 rq 7 != 0) = true := by simpa using p3
      have K4 : K = 0 ∨ K = 1 ∨ K = 2 := by omega
      rcases K4 with rfl | rfl | rfl
      · have y := S5.p1.cell 0 _ rfl
        have yf := S5.p1.cells_fz 0
        have xf1 := S5.cells_fz 1
        have xf2 := S5.cells_fz 2
        go_upto_region 9 with fail
        have S6 := S5.p1.setc 0 (.int .i64 (wrap64 (r0 + 1)))
        generalize w5.setCell ⟨rb, 0, none⟩ (.int .i64 (wrap64 (r0 + 1))) = w6 at *
        clear S5 x0 x1 x2 x3 x4 x5 x6 x7 y yf xf1 xf2
        have y := S6.cell 0 _ rfl
        have xf2 := S6.p1.cells_fz 2
        have xc2 := S6.p1.cell 2 _ rfl
        go_upto_region 10 with fail
        have S7 := S6.p1.setc 2 (.int .i64 (wrap64 (r0 + 1)))
        generalize w6.setCell ⟨cb, 2, none⟩ (.int .i64 (wrap64 (r0 + 1))) = w7 at *
        clear S6 y xf2 xc2
        have xf1 := S7.cells_fz 1
        have xc1 := S7.cell 1 _ rfl
        go_upto_region 11 with fail
        have S8 := S7.setc 1 (.int .i64 1)
        generalize w7.setCell ⟨cb, 1, none⟩ (.int .i64 1) = w8 at *
        clear S7 xf1 xc1
        have S8 : Sat W w8 (cellsA cb 35 #[.int .i64 kd, .int .i64 1, .int .i64 (wrap64 (r0 + 1)), .int .i64 nt, .slice A1 ops.length cap1, .string (S pa), .bool ki, .bool oc] :: cellsA rb 3 #[.int .i64 (wrap64 (r0 + 1)), .int .i64 r1, .int .i64 r2] :: rowA 35 8 (.slice A2 (k + 3) c2) (k + 3) (qs2.flatMap cqL) :: L) := S8
        have x0 := S8.cell 0 _ rfl
        have x1 := S8.cell 1 _ rfl
        have x2 := S8.cell 2 _ rfl
        have x3 := S8.cell 3 _ rfl
        have x4 := S8.cell 4 _ rfl
        have x5 := S8.cell 5 _ rfl
        have x6 := S8.cell 6 _ rfl
        have x7 := S8.cell 7 _ rfl
        go_wp2_with (at_builtin; refine wpList_sapp slCmd rfl (.tmp 54) (.tmp 56) rfl (g := W) (S := (S8.box #[.int .i64 kd, .int .i64 1, .int .i64 (wrap64 (r0 + 1)), .int .i64 nt, .slice A1 ops.length cap1, .string (S pa), .bool ki, .bool oc] 35 rfl).p3) rfl (Src.block (heap_alloc_new _ _) 8 1 rfl) rfl (by simp [Value.oneCell']) (by unfold maxLen; omega) (by omega) ?_; intro A9 c9 w9 S9)
        have S10 : Sat W w9 (cellsA rb 3 #[.int .i64 (wrap64 (r0 + 1)), .int .i64 r1, .int .i64 r2] :: rowA 35 8 (.slice A9 (k + 3 + 1) c9) (k + 3 + 1) ((qs2 ++ ([(⟨kd, 1, (wrap64 (r0 + 1)), nt, ops, pa, ki, oc⟩, A1, cap1)] : List CQ)).flatMap cqL) :: L) := by
          rw [List.flatMap_append]
          exact (S9.p1.drop.p1.drop).p1
        have HQ3 := hide (cq_snoc HQ2.out (show CqOk W (⟨kd, 1, (wrap64 (r0 + 1)), nt, ops, pa, ki, oc⟩, A1, cap1) from HQ.out))
        clear S8 S9
        go_wp2_with fail
        go_roundw
        case rel => exact ⟨k + 1, by omega, by go_num, A9, c9, _, _, _, _, (by rw [show k + 1 + 3 = k + 3 + 1 by omega]), by rw [List.length_append, hl2]; rfl, HQ3.out, (by rw [show k + 1 + 3 = k + 3 + 1 by omega]; exact S10)⟩
        case measure => simp [RowKit.intOf]; omega
      · have y := S5.p1.cell 1 _ rfl
        have yf := S5.p1.cells_fz 1
        have xf1 := S5.cells_fz 1
        have xf2 := S5.cells_fz 2
        go_upto_region 9 with fail
        have S6 := S5.p1.setc 1 (.int .i64 (wrap64 (r1 + 1)))
        generalize w5.setCell ⟨rb, 1, none⟩ (.int .i64 (wrap64 (r1 + 1))) = w6 at *
        clear S5 x0 x1 x2 x3 x4 x5 x6 x7 y yf xf1 xf2
        have y := S6.cell 1 _ rfl
        have xf2 := S6.p1.cells_fz 2
        have xc2 := S6.p1.cell 2 _ rfl
        go_upto_region 10 with fail
        have S7 := S6.p1.setc 2 (.int .i64 (wrap64 (r1 + 1)))
        generalize w6.setCell ⟨cb, 2, none⟩ (.int .i64 (wrap64 (r1 + 1))) = w7 at *
        clear S6 y xf2 xc2
        have xf1 := S7.cells_fz 1
        have xc1 := S7.cell 1 _ rfl
        go_upto_region 11 with fail
        have S8 := S7.setc 1 (.int .i64 2)
        generalize w7.setCell ⟨cb, 1, none⟩ (.int .i64 2) = w8 at *
        clear S7 xf1 xc1
        have S8 : Sat W w8 (cellsA cb 35 #[.int .i64 kd, .int .i64 2, .int .i64 (wrap64 (r1 + 1)), .int .i64 nt, .slice A1 ops.length cap1, .string (S pa), .bool ki, .bool oc] :: cellsA rb 3 #[.int .i64 r0, .int .i64 (wrap64 (r1 + 1)), .int .i64 r2] :: rowA 35 8 (.slice A2 (k + 3) c2) (k + 3) (qs2.flatMap cqL) :: L) := S8
        have x0 := S8.cell 0 _ rfl
        have x1 := S8.cell 1 _ rfl
        have x2 := S8.cell 2 _ rfl
        have x3 := S8.cell 3 _ rfl
        have x4 := S8.cell 4 _ rfl
        have x5 := S8.cell 5 _ rfl
        have x6 := S8.cell 6 _ rfl
        have x7 := S8.cell 7 _ rfl
        go_wp2_with (at_builtin; refine wpList_sapp slCmd rfl (.tmp 54) (.tmp 56) rfl (g := W) (S := (S8.box #[.int .i64 kd, .int .i64 2, .int .i64 (wrap64 (r1 + 1)), .int .i64 nt, .slice A1 ops.length cap1, .string (S pa), .bool ki, .bool oc] 35 rfl).p3) rfl (Src.block (heap_alloc_new _ _) 8 1 rfl) rfl (by simp [Value.oneCell']) (by unfold maxLen; omega) (by omega) ?_; intro A9 c9 w9 S9)
        have S10 : Sat W w9 (cellsA rb 3 #[.int .i64 r0, .int .i64 (wrap64 (r1 + 1)), .int .i64 r2] :: rowA 35 8 (.slice A9 (k + 3 + 1) c9) (k + 3 + 1) ((qs2 ++ ([(⟨kd, 2, (wrap64 (r1 + 1)), nt, ops, pa, ki, oc⟩, A1, cap1)] : List CQ)).flatMap cqL) :: L) := by
          rw [List.flatMap_append]
          exact (S9.p1.drop.p1.drop).p1
        have HQ3 := hide (cq_snoc HQ2.out (show CqOk W (⟨kd, 2, (wrap64 (r1 + 1)), nt, ops, pa, ki, oc⟩, A1, cap1) from HQ.out))
        clear S8 S9
        go_wp2_with fail
        go_roundw
        case rel => exact ⟨k + 1, by omega, by go_num, A9, c9, _, _, _, _, (by rw [show k + 1 + 3 = k + 3 + 1 by omega]), by rw [List.length_append, hl2]; rfl, HQ3.out, (by rw [show k + 1 + 3 = k + 3 + 1 by omega]; exact S10)⟩
        case measure => simp [RowKit.intOf]; omega
      · have y := S5.p1.cell 2 _ rfl
        have yf := S5.p1.cells_fz 2
        have xf1 := S5.cells_fz 1
        have xf2 := S5.cells_fz 2
        go_upto_region 9 with fail
        have S6 := S5.p1.setc 2 (.int .i64 (wrap64 (r2 + 1)))
        generalize w5.setCell ⟨rb, 2, none⟩ (.int .i64 (wrap64 (r2 + 1))) = w6 at *
        clear S5 x0 x1 x2 x3 x4 x5 x6 x7 y yf xf1 xf2
        have y := S6.cell 2 _ rfl
        have xf2 := S6.p1.cells_fz 2
        have xc2 := S6.p1.cell 2 _ rfl
        go_upto_region 10 with fail
        have S7 := S6.p1.setc 2 (.int .i64 (wrap64 (r2 + 1)))
        generalize w6.setCell ⟨cb, 2, none⟩ (.int .i64 (wrap64 (r2 + 1))) = w7 at *
        clear S6 y xf2 xc2
        have xf1 := S7.cells_fz 1
        have xc1 := S7.cell 1 _ rfl
        go_upto_region 11 with fail
        have S8 := S7.setc 1 (.int .i64 3)
        generalize w7.setCell ⟨cb, 1, none⟩ (.int .i64 3) = w8 at *
        clear S7 xf1 xc1
        have S8 : Sat W w8 (cellsA cb 35 #[.int .i64 kd, .int .i64 3, .int .i64 (wrap64 (r2 + 1)), .int .i64 nt, .slice A1 ops.length cap1, .string (S pa), .bool ki, .bool oc] :: cellsA rb 3 #[.int .i64 r0, .int .i64 r1, .int .i64 (wrap64 (r2 + 1))] :: rowA 35 8 (.slice A2 (k + 3) c2) (k + 3) (qs2.flatMap cqL) :: L) := S8
        have x0 := S8.cell 0 _ rfl
        have x1 := S8.cell 1 _ rfl
        have x2 := S8.cell 2 _ rfl
        have x3 := S8.cell 3 _ rfl
        have x4 := S8.cell 4 _ rfl
        have x5 := S8.cell 5 _ rfl
        have x6 := S8.cell 6 _ rfl
        have x7 := S8.cell 7 _ rfl
        go_wp2_with (at_builtin; refine wpList_sapp slCmd rfl (.tmp 54) (.tmp 56) rfl (g := W) (S := (S8.box #[.int .i64 kd, .int .i64 3, .int .i64 (wrap64 (r2 + 1)), .int .i64 nt, .slice A1 ops.length cap1, .string (S pa), .bool ki, .bool oc] 35 rfl).p3) rfl (Src.block (heap_alloc_new _ _) 8 1 rfl) rfl (by simp [Value.oneCell']) (by unfold maxLen; omega) (by omega) ?_; intro A9 c9 w9 S9)
        have S10 : Sat W w9 (cellsA rb 3 #[.int .i64 r0, .int .i64 r1, .int .i64 (wrap64 (r2 + 1))] :: rowA 35 8 (.slice A9 (k + 3 + 1) c9) (k + 3 + 1) ((qs2 ++ ([(⟨kd, 3, (wrap64 (r2 + 1)), nt, ops, pa, ki, oc⟩, A1, cap1)] : List CQ)).flatMap cqL) :: L) := by
          rw [List.flatMap_append]
          exact (S9.p1.drop.p1.drop).p1
        have HQ3 := hide (cq_snoc HQ2.out (show CqOk W (⟨kd, 3, (wrap64 (r2 + 1)), nt, ops, pa, ki, oc⟩, A1, cap1) from HQ.out))
        clear S8 S9
        go_wp2_with fail
        go_roundw
        case rel => exact ⟨k + 1, by omega, by go_num, A9, c9, _, _, _, _, (by rw [show k + 1 + 3 = k + 3 + 1 by omega]), by rw [List.length_append, hl2]; rfl, HQ3.out, (by rw [show k + 1 + 3 = k + 3 + 1 by omega]; exact S10)⟩
        case measure => simp [RowKit.intOf]; omega
    · obtain rfl : k = qs.length := by omega
      have HS := hide S4
      clear S4
      go_wp2_with fail
      go_ret
      exact ⟨A2, c2, qs2, by rw [hl2]; rfl, hl2, HQ2.out, by rw [hl2]; exact HS.out.drop⟩
end Go.Proofs.YtanlobdidjednaaGreatDoor
