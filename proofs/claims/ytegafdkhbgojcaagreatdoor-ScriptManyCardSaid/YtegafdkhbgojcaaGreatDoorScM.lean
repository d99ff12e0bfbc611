/- The statement ScriptMany: the call. No condition. -/
import Derived.Test.YtegafdkhbgojcaaGreatDoorScR
set_option linter.unusedVariables false
set_option linter.unusedSimpArgs false
namespace Go.Proofs.YtegafdkhbgojcaaGreatDoor
open Go.RowKit

/-- what it says of a step's numbers that it is right -/
def rightP (s : StepT) (e : Ending) : Prop := ∃ b, e = .returned (.bool b) ∧ (b = true → 1 ≤ s.kind ∧ s.kind ≤ 13 ∧ (0 ≤ s.who ∧ s.who ≤ 1048576) ∧ (0 ≤ s.n ∧ s.n ≤ 1048576) ∧ (0 ≤ s.m ∧ s.m ≤ 1048576))
theorem rightP_no {s : StepT} : rightP s (.returned (.bool false)) := ⟨false, rfl, by simp⟩
theorem rightP_of {s : StepT} {b : Bool} (h : b = true → 1 ≤ s.kind ∧ s.kind ≤ 13) (h1 : 0 ≤ s.who ∧ s.who ≤ 1048576) (h2 : 0 ≤ s.n ∧ s.n ≤ 1048576) (h3 : 0 ≤ s.m ∧ s.m ≤ 1048576) : rightP s (.returned (.bool b)) := ⟨b, rfl, fun hb => ⟨(h hb).1, (h hb).2, h1, h2, h3⟩⟩
set_option maxRecDepth 100000 in
set_option maxHeartbeats 2000000 in
theorem right_law (w : World) (s : StepT) (A : Option Addr) (cap : Nat) (h : Src w 1 A s.fates.length (Is s.fates)) (hf : s.fates.length ≤ 9223372036854775807) (ht : s.text.length ≤ 9223372036854775807) :
    Calls Tryz.prog 14 #[stV s A cap] w fun e w' => rightP s e ∧ Keeps (fun _ => False) w w' := by
  obtain ⟨kind, who, n, m, text, fates⟩ := s
  simp only at h hf ht ⊢
  have S1 := (Sat.start w).box #[.int .i64 kind, .int .i64 who, .int .i64 n, .int .i64 m, .string (Go.Proofs.YtegafdkhbgojcaaGreatDoor.S text), .slice A fates.length cap] 33 rfl
  go_enter Tryz.func14, Tryz.ntmps14
  go_upto_region 1 with fail
  generalize w.alloc (.cells #[.int .i64 kind, .int .i64 who, .int .i64 n, .int .i64 m, .string (Go.Proofs.YtegafdkhbgojcaaGreatDoor.S text), .slice A fates.length cap] 33) = w1 at *
  generalize w.heap.size = xb at *
  have x5 := S1.cell 5 _ rfl
  go_wp2_with fail
  go_loopw [10] (fun i wr => ∃ k : Nat, k ≤ fates.length ∧ i = .int .i64 (k : Int) ∧ Sat w wr [cellsA xb 33 #[.int .i64 kind, .int .i64 who, .int .i64 n, .int .i64 m, .string (Go.Proofs.YtegafdkhbgojcaaGreatDoor.S text), .slice A fates.length cap], oldA w]) (fun i _ => fates.length - (RowKit.intOf i).toNat)
  case atStart => exact ⟨0, by omega, rfl, S1⟩
  case round =>
    obtain ⟨k, hk, rfl, S2⟩ := hrel
    clear S1 x5
    by_cases hlt : k < fates.length
    · obtain ⟨ad, u, rfl, hx, c0⟩ := Src.at_ (h.keep S2.p1.keep_all (fun _ _ h => h)) (k := k) (by omega)
      obtain ⟨f, hx2, rfl⟩ := is_at hx
      clear hx hx2
      go_wp2_with fail
      all_goals first
        | (go_ret; exact ⟨rightP_no, S2.p1.keep_all⟩)
        | (go_roundw
           case rel => exact ⟨k + 1, by omega, by go_num, S2⟩
           case measure => simp [RowKit.intOf]; omega)
    · obtain rfl : k = fates.length := by omega
      have x1 := S2.cell 1 _ rfl
      have x2 := S2.cell 2 _ rfl
      have x3 := S2.cell 3 _ rfl
      go_upto_region 8 with fail
      have S3 := S2.box #[.int .i64 who, .int .i64 n, .int .i64 m] 3 rfl
      generalize wr.alloc (.cells #[.int .i64 who, .int .i64 n, .int .i64 m] 3) = w3 at *
      generalize wr.heap.size = lb at *
      go_loopw [29] (fun i wr => ∃ k : Nat, k ≤ 3 ∧ i = .int .i64 (k : Int) ∧ (1 ≤ k → 0 ≤ who ∧ who ≤ 1048576) ∧ (2 ≤ k → 0 ≤ n ∧ n ≤ 1048576) ∧ (3 ≤ k → 0 ≤ m ∧ m ≤ 1048576) ∧ Sat w wr [cellsA lb 3 #[.int .i64 who, .int .i64 n, .int .i64 m], cellsA xb 33 #[.int .i64 kind, .int .i64 who, .int .i64 n, .int .i64 m, .string (Go.Proofs.YtegafdkhbgojcaaGreatDoor.S text), .slice A fates.length cap], oldA w]) (fun i _ => 3 - (RowKit.intOf i).toNat)
      case atStart => exact ⟨0, by omega, rfl, by omega, by omega, by omega, S3⟩
      case round =>
        obtain ⟨k, hk, rfl, g1, g2, g3, S4⟩ := hrel
        clear S3 S2 x1 x2 x3
        have y0 : wr.cell? ⟨lb, 0, none⟩ = some (.int .i64 who) := S4.cell 0 _ rfl
        have y1 : wr.cell? ⟨lb, 1, none⟩ = some (.int .i64 n) := S4.cell 1 _ rfl
        have y2 : wr.cell? ⟨lb, 2, none⟩ = some (.int .i64 m) := S4.cell 2 _ rfl
        have G1 := hide g1
        have G2 := hide g2
        have G3 := hide g3
        clear g1 g2 g3
        match k, hk with
        | 0, _ =>
          go_wp2_with fail
          all_goals first
            | (go_ret; exact ⟨rightP_no, S4.p2.keep_all⟩)
            | (go_roundw
               case rel => exact ⟨1, by omega, by go_num, by omega, by omega, by omega, S4⟩
               case measure => simp [RowKit.intOf])
        | 1, _ =>
          go_wp2_with fail
          all_goals first
            | (go_ret; exact ⟨rightP_no, S4.p2.keep_all⟩)
            | (go_roundw
               case rel => exact ⟨2, by omega, by go_num, fun _ => G1.out (by omega), by omega, by omega, S4⟩
               case measure => simp [RowKit.intOf])
        | 2, _ =>
          go_wp2_with fail
          all_goals first
            | (go_ret; exact ⟨rightP_no, S4.p2.keep_all⟩)
            | (go_roundw
               case rel => exact ⟨3, by omega, by go_num, fun _ => G1.out (by omega), fun _ => G2.out (by omega), by omega, S4⟩
               case measure => simp [RowKit.intOf])
        | 3, _ =>
          have z0 := S4.p1.cell 0 _ rfl
          have z4 := S4.p1.cell 4 _ rfl
          have z5 := S4.p1.cell 5 _ rfl
          go_wp2_with fail
          all_goals
            go_ret
            refine ⟨rightP_of (fun hb => ?_) (G1.out (by omega)) (G2.out (by omega)) (G3.out (by omega)), S4.p2.keep_all⟩
            simp at hb <;> (constructor <;> omega)
        | k + 4, hk => omega
/-- the same step, of no fates, twice -/
theorem same_law (w : World) (kind who n m : Int) (A B : Option Addr) (c d : Nat) :
    Calls Tryz.prog 15 #[.agg #[.int .i64 kind, .int .i64 who, .int .i64 n, .int .i64 m, .string (S []), .slice A 0 c], .agg #[.int .i64 kind, .int .i64 who, .int .i64 n, .int .i64 m, .string (S []), .slice B 0 d]] w fun e w' => e = .returned (.bool true) ∧ Keeps (fun _ => False) w w' := by
  have S1 := ((Sat.start w).box #[.int .i64 kind, .int .i64 who, .int .i64 n, .int .i64 m, .string (Go.Proofs.YtegafdkhbgojcaaGreatDoor.S []), .slice A 0 c] 33 rfl).box #[.int .i64 kind, .int .i64 who, .int .i64 n, .int .i64 m, .string (Go.Proofs.YtegafdkhbgojcaaGreatDoor.S []), .slice B 0 d] 33 (b := w.heap.size + 1) (by simp)
  go_enter Tryz.func15, Tryz.ntmps15
  go_wp2_with fail
  go_loopw [51] (fun i wr => i = .int .i64 0 ∧ Keeps (fun _ => False) w wr) (fun i _ => 0)
  case atStart => exact ⟨rfl, S1.p2.keep_all⟩
  case round =>
    obtain ⟨rfl, hk⟩ := hrel
    go_wp2_with fail
    go_ret
    exact ⟨rfl, hk⟩
/-- the same step so many times -/
def sameQ (kind who n m : Int) (k : Nat) : List SQ := List.replicate k (⟨kind, who, n, m, [], []⟩, none, 0)
theorem sameQ_succ (kind who n m : Int) (k : Nat) : (sameQ kind who n m (k + 1)).flatMap sqL = (sameQ kind who n m k).flatMap sqL ++ [.int .i64 kind, .int .i64 who, .int .i64 n, .int .i64 m, .string (S []), .slice none 0 0] := by
  unfold sameQ
  rw [List.replicate_succ', List.flatMap_append]
  rfl
theorem sameQ_ok {w : World} {kind who n m : Int} {k : Nat} : ∀ q ∈ sameQ kind who n m k, SqOk w q := by
  intro q hq
  rw [(List.mem_replicate.1 hq).2]
  exact ⟨Src.nil _ _ _, by simp, by simp⟩
theorem sameQ_map (kind who n m : Int) (k : Nat) : (sameQ kind who n m k).map (·.1) = List.replicate k ⟨kind, who, n, m, [], []⟩ := by
  unfold sameQ
  rw [List.map_replicate]
theorem and_15 (x : Int) : 0 ≤ bits .and .i64 x 15 ∧ bits .and .i64 x 15 ≤ 15 := and_le x 15 (by decide)
set_option maxRecDepth 100000 in
set_option maxHeartbeats 4000000 in
theorem many_walk (w : World) (nn : Int) (s : StepT) (A : Option Addr) (cap : Nat) (h : Src w 1 A s.fates.length (Is s.fates)) (hf : s.fates.length ≤ 9223372036854775807) (ht : s.text.length ≤ 9223372036854775807) :
    Calls Tryz.prog 4 #[.int .i64 nn, stV s A cap] w fun e w' => e = .returned (.bool true) ∧ Keeps (fun k => w.heap.size ≤ k) w w' := by
  obtain ⟨kind, who, n, m, tx, fs⟩ := s
  simp only at h hf ht
  have S1 := (Sat.start w).box #[.int .i64 kind, .int .i64 who, .int .i64 n, .int .i64 m, .string (Go.Proofs.YtegafdkhbgojcaaGreatDoor.S tx), .slice A fs.length cap] 33 rfl
  go_enter Tryz.func4, Tryz.ntmps4
  go_upto_region 1 with fail
  generalize w.alloc (.cells #[.int .i64 kind, .int .i64 who, .int .i64 n, .int .i64 m, .string (Go.Proofs.YtegafdkhbgojcaaGreatDoor.S tx), .slice A fs.length cap] 33) = w1 at *
  generalize w.heap.size = xb at *
  go_wp2_with fail
  refine (Ek.h21_calls _).mono ?_
  rintro e w2 ⟨rfl, hk2⟩
  have S2 := S1.keep hk2
  clear hk2 S1
  have x0 := S2.cell 0 _ rfl
  have x1 := S2.cell 1 _ rfl
  have x2 := S2.cell 2 _ rfl
  have x3 := S2.cell 3 _ rfl
  have x4 := S2.cell 4 _ rfl
  have x5 := S2.cell 5 _ rfl
  go_wp2_with fail
  refine (right_law w2 ⟨kind, who, n, m, tx, fs⟩ A cap (h.keep S2.p1.keep_all (fun _ _ h => h)) hf ht).mono ?_
  rintro e w3 ⟨⟨b, rfl, hb⟩, hk3⟩
  have S3 := S2.keep hk3
  clear hk3 S2 x0 x1 x2 x3 x4 x5
  cases b
  · clear hb
    go_wp2_with fail
    go_ret
    exact ⟨rfl, S3.p1.keeps⟩
  obtain ⟨h1, h2, h3, h4, h5⟩ := hb rfl
  simp only at h1 h2 h3 h4 h5
  have hR : stepR ⟨kind, who, n, m, [], []⟩ = true := by
    simp [stepR, h1, h2, h3, h4, h5]
  have HR := hide hR
  clear hR hb h1 h2 h3 h4 h5
  obtain ⟨K0, K3⟩ := and_15 nn
  obtain ⟨K, hK⟩ : ∃ K : Nat, bits .and .i64 nn 15 = (K : Int) := ⟨(bits .and .i64 nn 15).toNat, by omega⟩
  rw [hK] at K0 K3
  have x4 := S3.cell 4 _ rfl
  have x5 := S3.cell 5 _ rfl
  have f4 := S3.cells_fz 4
  have f5 := S3.cells_fz 5
  go_upto_region 8 with fail
  have S4 : Sat w _ [cellsA xb 33 #[.int .i64 kind, .int .i64 who, .int .i64 n, .int .i64 m, .string (Go.Proofs.YtegafdkhbgojcaaGreatDoor.S []), .slice none 0 0], oldA w] := (S3.setc 4 (.string (Go.Proofs.YtegafdkhbgojcaaGreatDoor.S []))).setc 5 (.slice none 0 0)
  obtain ⟨Z, hZ⟩ : ∃ Z : Nat, 490 + K = Z + 1 := ⟨489 + K, by omega⟩
  have hZ' : (490 : Int) + (K : Int) = (Z : Int) + 1 := by omega
  have hZ5 : Z ≤ 504 := by omega
  rw [hZ']
  change Code.wp _ _ _ _ ((w3.setCell ⟨xb, 4, none⟩ (.string (Go.Proofs.YtegafdkhbgojcaaGreatDoor.S []))).setCell ⟨xb, 5, none⟩ (.slice none 0 0))
  generalize (w3.setCell ⟨xb, 4, none⟩ (.string (Go.Proofs.YtegafdkhbgojcaaGreatDoor.S []))).setCell ⟨xb, 5, none⟩ (.slice none 0 0) = w4 at *
  clear S3 x4 x5 f4 f5 hK K0 K3 hZ hZ'
  have S5 : Sat w _ (rowA 33 6 (.slice (some ⟨w4.heap.size, 0, none⟩) 0 0) 0 ((sameQ kind who n m 0).flatMap sqL) :: [cellsA xb 33 #[.int .i64 kind, .int .i64 who, .int .i64 n, .int .i64 m, .string (Go.Proofs.YtegafdkhbgojcaaGreatDoor.S []), .slice none 0 0], oldA w]) := (S4.box #[] 33 rfl).rowOf 6 0 rfl (Nat.zero_le _)
  go_wp2_with fail
  go_loopw [5, 6] (fun o i wr => ∃ k : Nat, k ≤ Z + 1 ∧ i = .int .i64 (k : Int) ∧ ∃ (A' : Option Addr) (c' : Nat), o = .slice A' k c' ∧ Sat w wr (rowA 33 6 (.slice A' k c') k ((sameQ kind who n m k).flatMap sqL) :: [cellsA xb 33 #[.int .i64 kind, .int .i64 who, .int .i64 n, .int .i64 m, .string (Go.Proofs.YtegafdkhbgojcaaGreatDoor.S []), .slice none 0 0], oldA w])) (fun _ i _ => Z + 1 - (RowKit.intOf i).toNat)
  case atStart => exact ⟨0, by omega, rfl, _, _, rfl, S5⟩
  case round =>
    obtain ⟨k, hk, rfl, A', c', rfl, S6⟩ := hrel
    clear S4 S5
    have u0 : wr.cell? ⟨xb, 0, none⟩ = some (.int .i64 kind) := S6.p1.cell 0 _ rfl
    have u1 : wr.cell? ⟨xb, 1, none⟩ = some (.int .i64 who) := S6.p1.cell 1 _ rfl
    have u2 : wr.cell? ⟨xb, 2, none⟩ = some (.int .i64 n) := S6.p1.cell 2 _ rfl
    have u3 : wr.cell? ⟨xb, 3, none⟩ = some (.int .i64 m) := S6.p1.cell 3 _ rfl
    have u4 : wr.cell? ⟨xb, 4, none⟩ = some (.string (Go.Proofs.YtegafdkhbgojcaaGreatDoor.S [])) := S6.p1.cell 4 _ rfl
    have u5 : wr.cell? ⟨xb, 5, none⟩ = some (.slice none 0 0) := S6.p1.cell 5 _ rfl
    by_cases hlt : k < Z + 1
    · have hlt' : (k : Int) < (Z : Int) + 1 := by omega
      go_wp2_with (at_builtin; refine wpList_sapp slSt6 rfl (.tmp 27) (.tmp 29) rfl (g := w) (S := (S6.box #[.int .i64 kind, .int .i64 who, .int .i64 n, .int .i64 m, .string (Go.Proofs.YtegafdkhbgojcaaGreatDoor.S []), .slice none 0 0] 33 rfl).p1) rfl (Src.block (heap_alloc_new _ _) 6 1 rfl) rfl (by simp [Value.oneCell']) (by unfold maxLen; omega) (by omega) ?_; intro A9 c9 w9 S9)
      have S10 : Sat w w9 (rowA 33 6 (.slice A9 (k + 1) c9) (k + 1) ((sameQ kind who n m (k + 1)).flatMap sqL) :: [cellsA xb 33 #[.int .i64 kind, .int .i64 who, .int .i64 n, .int .i64 m, .string (Go.Proofs.YtegafdkhbgojcaaGreatDoor.S []), .slice none 0 0], oldA w]) := by
        rw [sameQ_succ]
        exact S9.p1.drop
      clear S9 S6 u0 u1 u2 u3 u4 u5
      go_wp2_with fail
      go_roundw
      case rel => exact ⟨k + 1, by omega, by go_num, A9, c9, rfl, S10⟩
      case measure => simp [RowKit.intOf]; omega
    · obtain rfl : k = Z + 1 := by omega
      have hlt' : ¬ (((Z + 1 : Nat) : Int) < (Z : Int) + 1) := by omega
      have hl : (sameQ kind who n m (Z + 1)).length = Z + 1 := List.length_replicate
      have hB := bytes_steps wr A' c' (sameQ kind who n m (Z + 1)) (by rw [hl]; exact S6.srcR) sameQ_ok (by omega)
      rw [hl, sameQ_map] at hB
      have hall : ∀ t ∈ List.replicate (Z + 1) (⟨kind, who, n, m, [], []⟩ : StepT), stepR t = true := fun t ht => by rw [(List.mem_replicate.1 ht).2]; exact HR.out
      by_cases h5 : 500 < Z + 1
      · have hb : bytesS (List.replicate (Z + 1) (⟨kind, who, n, m, [], []⟩ : StepT)) = ([], 3) := by unfold bytesS; rw [if_pos (by rw [List.length_replicate]; exact h5)]
        rw [hb] at hB
        have h5' : (500 : Int) < (Z : Int) + 1 := by omega
        have HBY := hide hB
        clear hB hb hall
        go_wp2_with fail
        refine HBY.out.mono ?_
        rintro e w5 ⟨rfl, hk5⟩
        have S7 := S6.keep hk5
        clear hk5 S6 u0 u1 u2 u3 u4 u5
        go_wp2_with fail
        go_ret
        exact ⟨by first | rfl | simp, S7.p2.keeps⟩
      · have hb : bytesS (List.replicate (Z + 1) (⟨kind, who, n, m, [], []⟩ : StepT)) = (stepsB (List.replicate (Z + 1) ⟨kind, who, n, m, [], []⟩), 0) := by
          unfold bytesS
          rw [if_neg (by rw [List.length_replicate]; exact h5), if_pos (List.all_eq_true.2 hall)]
        rw [hb] at hB
        have h5' : ¬ (500 : Int) < (Z : Int) + 1 := by omega
        have hno := no_bytes (l := List.replicate (Z + 1) (⟨kind, who, n, m, [], []⟩ : StepT)) (by rw [List.length_replicate]; omega) hall
        have hyes := fun l' => yes_bytes (l := List.replicate (Z + 1) (⟨kind, who, n, m, [], []⟩ : StepT)) (l' := l') (by rw [List.length_replicate]; omega) hall
        have hlen : (stepsB (List.replicate (Z + 1) (⟨kind, who, n, m, [], []⟩ : StepT))).length ≤ 9223372036854775807 := by
          have h1 := steps_length _ hall
          rw [List.length_replicate] at h1
          unfold stepsB
          rw [List.length_append, nums_length]
          simp only [List.length_cons, List.length_nil]
          omega
        generalize stepsB (List.replicate (Z + 1) (⟨kind, who, n, m, [], []⟩ : StepT)) = by_ at *
        have HBY := hide hB
        have HNO := hide hno
        have HYES := hide hyes
        clear hB hb hall hno hyes
        go_wp2_with fail
        refine HBY.out.mono ?_
        rintro e w5 ⟨rfl, hk5⟩
        have S7 := S6.keep hk5
        clear hk5 S6 u0 u1 u2 u3 u4 u5
        go_wp2_with fail
        refine (parse_steps w5 by_ hlen).mono ?_
        rintro e w6 (⟨rfl, hno, hk6⟩ | ⟨A2, c2, qs, rfl, hy, hsrc, hok, hk6⟩)
        · exact absurd hno HNO.out
        have hm := HYES.out _ hy
        have hql : qs.length = Z + 1 := by
          have := congrArg List.length hm
          rw [List.length_map, List.length_replicate] at this
          exact this
        obtain ⟨ad, q, rfl, hx, c0, c1, c2', c3, c4, c5⟩ := sqs_at hsrc (k := Z) (by omega)
        have hq : q.1 = ⟨kind, who, n, m, [], []⟩ := by
          have h1 : (qs.map (·.1))[Z]? = some q.1 := by rw [List.getElem?_map, hx]; rfl
          rw [hm] at h1
          exact (List.mem_replicate.1 (List.mem_of_getElem? h1)).2.symm ▸ rfl
        obtain ⟨q1, B, cb⟩ := q
        simp only at hq
        subst hq
        simp only [List.length_nil] at c0 c1 c2' c3 c4 c5
        have S8 := S7.keep (keeps_new hk6)
        have u0 : w6.cell? ⟨xb, 0, none⟩ = some (.int .i64 kind) := S8.p1.cell 0 _ rfl
        have u1 : w6.cell? ⟨xb, 1, none⟩ = some (.int .i64 who) := S8.p1.cell 1 _ rfl
        have u2 : w6.cell? ⟨xb, 2, none⟩ = some (.int .i64 n) := S8.p1.cell 2 _ rfl
        have u3 : w6.cell? ⟨xb, 3, none⟩ = some (.int .i64 m) := S8.p1.cell 3 _ rfl
        have u4 : w6.cell? ⟨xb, 4, none⟩ = some (.string (Go.Proofs.YtegafdkhbgojcaaGreatDoor.S [])) := S8.p1.cell 4 _ rfl
        have u5 : w6.cell? ⟨xb, 5, none⟩ = some (.slice none 0 0) := S8.p1.cell 5 _ rfl
        rw [hql]
        have hzi : ((Z + 1 : Nat) : Int) = (Z : Int) + 1 := by omega
        have hw1 : IntKind.i64.wrap (Z : Int) = (Z : Int) := IntWalk.i64_in _ ⟨by omega, by omega⟩
        have hz0 : (0 : Int) ≤ (Z : Int) := by omega
        have hz1 : (Z : Int) < (Z : Int) + 1 := by omega
        go_upto_region 17 with fail
        --R17
        go_region_held3 (fun w' => w'.cell? (ad.add (Z * 6)) = some (.int .i64 kind) ∧ w'.cell? (⟨(ad.add (Z * 6)).block, (ad.add (Z * 6)).off + 1, none⟩) = some (.int .i64 who) ∧ w'.cell? (⟨(ad.add (Z * 6)).block, (ad.add (Z * 6)).off + 2, none⟩) = some (.int .i64 n) ∧ w'.cell? (⟨(ad.add (Z * 6)).block, (ad.add (Z * 6)).off + 3, none⟩) = some (.int .i64 m) ∧ w'.cell? (⟨(ad.add (Z * 6)).block, (ad.add (Z * 6)).off + 4, none⟩) = some (.string (Go.Proofs.YtegafdkhbgojcaaGreatDoor.S [])) ∧ w'.cell? (⟨(ad.add (Z * 6)).block, (ad.add (Z * 6)).off + 5, none⟩) = some (.slice B 0 cb) ∧ w'.cell? ⟨xb, 0, none⟩ = some (.int .i64 kind) ∧ w'.cell? ⟨xb, 1, none⟩ = some (.int .i64 who) ∧ w'.cell? ⟨xb, 2, none⟩ = some (.int .i64 n) ∧ w'.cell? ⟨xb, 3, none⟩ = some (.int .i64 m) ∧ w'.cell? ⟨xb, 4, none⟩ = some (.string (Go.Proofs.YtegafdkhbgojcaaGreatDoor.S [])) ∧ w'.cell? ⟨xb, 5, none⟩ = some (.slice none 0 0)) (first
            | (go_keep; done)
            | exact ⟨hk7.cell c0 (fun h => h), hk7.cell c1 (fun h => h), hk7.cell c2' (fun h => h), hk7.cell c3 (fun h => h), hk7.cell c4 (fun h => h), hk7.cell c5 (fun h => h), hk7.cell u0 (fun h => h), hk7.cell u1 (fun h => h), hk7.cell u2 (fun h => h), hk7.cell u3 (fun h => h), hk7.cell u4 (fun h => h), hk7.cell u5 (fun h => h)⟩) (first
            | (go_at_call 15; refine (same_law _ kind who n m B none cb 0).mono ?_; rintro e w7 ⟨rfl, hk7⟩; have S9 := (S8.drew).keep hk7))
        go_wp2_with fail
        go_ret
        exact ⟨by first | rfl | simp, S9.p2.keeps⟩
        --R17E
end Go.Proofs.YtegafdkhbgojcaaGreatDoor
