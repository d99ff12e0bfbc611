/- The orders' texts of StateOrders' own function, walked. No condition. -/
import Derived.Test.YtbfogieeiobpdaaGreatDoorStOr
set_option linter.unusedVariables false
set_option linter.unusedSimpArgs false
namespace Go.Proofs.YtbfogieeiobpdaaGreatDoor
open Go.RowKit

def ec (k : Nat) : UInt8 := UInt8.ofNat (48 + k)
theorem orDs_at (ss : Int) (p : List UInt8) (l : List (List UInt8)) : ∀ (i k : Nat) (d : List UInt8), l[k]? = some d → (orDs ss p i l)[k]? = some (orD ss p (i + k) d) := by
  induction l with
  | nil => intro i k d h; cases h
  | cons a r ih =>
    intro i k d h
    cases k with
    | zero =>
      simp only [List.getElem?_cons_zero, Option.some.injEq] at h
      subst h
      rfl
    | succ k =>
      have := ih (i + 1) k d (by simpa using h)
      rw [show i + (k + 1) = i + 1 + k from by omega]
      exact this
theorem orL_take {ss : Int} {p : List UInt8} {l : List (List UInt8)} {k : Nat} {d : List UInt8} (h : l[k]? = some d) : textB ((orL ss p l).take (k + 1 + 1)) = textB ((orL ss p l).take (k + 1)) ++ [(bytesF (orD ss p k d)).1] := by
  have h1 : (orL ss p l)[k + 1]? = some (orD ss p k d) := by
    have := orDs_at ss p l 0 k d h
    rw [Nat.zero_add] at this
    exact this
  obtain ⟨hk, e⟩ := List.getElem?_eq_some_iff.1 h1
  rw [List.take_succ_eq_append_getElem hk, e]
  simp [textB]
set_option maxRecDepth 100000 in
set_option maxHeartbeats 8000000 in
theorem cmds_state {W w : World} {L : List Asn} (S0 : Sat W w L) (hm : oldA W ∈ L) (ss : Nat) (hss : ss ≤ 5) (A : Option Addr) (l : List (List UInt8)) (c : Nat) (hs : Src W 1 A l.length (Ss l)) (hl : l.length ≤ 8) :
    Calls Tryz.prog 29 #[.int .i64 (ss : Int), .slice A l.length c] w fun e w' => ∃ v, e = .returned v ∧ Sat W w' (rowA 9 1 v (l.length + 1) (Ss (textB (orL (ss : Int) [47, 115, ec ss] l))) :: L) := by
  have HAT : Hid (∀ (wr : World) (L' : List Asn) (k : Nat), Sat W wr L' → oldA W ∈ L' → k < l.length → ∃ ad d, A = some ad ∧ l[k]? = some d ∧ wr.cell? (ad.add k) = some (.string (S d))) := hide fun wr L' k S' h hk => by
    obtain ⟨L2, S2⟩ := S'.mem_ h
    exact str_at (hs.keep S2.keep_all (fun _ _ h => h)) hk
  clear hs
  have HTA : Hid (∀ k d, l[k]? = some d → textB ((orL (ss : Int) [47, 115, ec ss] l).take (k + 1 + 1)) = textB ((orL (ss : Int) [47, 115, ec ss] l).take (k + 1)) ++ [(bytesF (orD (ss : Int) [47, 115, ec ss] k d)).1]) := hide fun k d h => orL_take h
  have HT0 : Hid (textB ((orL (ss : Int) [47, 115, ec ss] l).take (0 + 1)) = [(bytesF (orC (ss : Int) [47, 115, ec ss])).1]) := hide rfl
  have HTL : Hid (textB (orL (ss : Int) [47, 115, ec ss] l) = textB ((orL (ss : Int) [47, 115, ec ss] l).take (l.length + 1))) := hide (by rw [List.take_of_length_le (by rw [orL_len]; exact Nat.le_refl _)])
  have HX0 : Hid (∀ (w' : World) (L' : List Asn) (ob : Nat), Sat W w' (cellsA ob 61 #[.int .i64 1, .string (S [47, 115, ec ss]), .string (S []), .int .i64 (-1), .bool false, .bool false] :: L') → Calls Tryz.prog 24 #[.agg #[.int .i64 3, .int .i64 (ss : Int), .int .i64 1, .int .i64 0, .slice (some ⟨ob, 0, none⟩) 1 1, .string ⟨#[]⟩, .bool false, .bool false]] w' fun e w2 => e = .returned (.string (S (bytesF (orC (ss : Int) [47, 115, ec ss])).1)) ∧ Sat W w2 (cellsA ob 61 #[.int .i64 1, .string (S [47, 115, ec ss]), .string (S []), .int .i64 (-1), .bool false, .bool false] :: L')) := hide fun w' L' ob S' => s_text1 ⟨1, [47, 115, ec ss], [], -1, false, false⟩ S' rfl (ss : Int) 1 (by simp) (by simp; try omega)
  generalize hTX : (bytesF (orC (ss : Int) [47, 115, ec ss])).1 = TX at *
  clear hTX
  have hcN : ((ec ss).toNat : Int) = 48 + (ss : Int) := by
    unfold ec
    rw [UInt8.toNat_ofNat_of_lt' (by show 48 + ss < 256; omega)]
    omega
  have hu1 : IntKind.u8.wrap (ss : Int) = (ss : Int) := by simp [IntKind.wrap, IntKind.signed, IntKind.bits]; omega
  have hu2 : IntKind.u8.wrap (48 + (ss : Int)) = 48 + (ss : Int) := by simp [IntKind.wrap, IntKind.signed, IntKind.bits]; omega
  have hbs : Bs [ec ss] = [.int .u8 (48 + (ss : Int))] := by simp only [Bs, List.map_cons, List.map_nil, B, hcN]
  have hcat : (⟨#[47, 115]⟩ : ByteArray) ++ S [ec ss] = S [47, 115, ec ss] := by
    exact S_append [47, 115] [ec ss]
  go_enter Tryz.func29, Tryz.ntmps29
  go_upto_region 2 with fail
  have S1 := (S0.box #[] 9 rfl).rowOf 1 0 rfl (Nat.zero_le _)
  generalize w.alloc (.cells #[] 9) = w1 at *
  generalize w.heap.size = yb at *
  have hsrcb : Src (w1.alloc (.cells #[.int .u8 (48 + (ss : Int))] 5)) 1 (some ⟨w1.heap.size, 0, none⟩) 1 (Bs [ec ss]) := by rw [hbs]; exact Src.block (heap_alloc_new w1 _) 1 1 rfl
  have hconv := run_ofBytes (P := Tryz.prog) (dst := 9) Tryz.underlying37 Tryz.underlying5 Tryz.underlying9 hsrcb 1
  clear hcN hbs hsrcb S0
  go_upto_region 3 with fail
  have S2 := (S1.box #[.int .u8 (48 + (ss : Int))] 5 rfl).drop
  generalize w1.alloc (.cells #[.int .u8 (48 + (ss : Int))] 5) = w2 at *
  clear S1 hconv hcat hu1 hu2
  have S3 := S2.box #[.int .i64 1, .string (S [47, 115, ec ss]), .string (S []), .int .i64 (-1), .bool false, .bool false] 61 rfl
  go_wp2_with fail
  refine (s_made1 S3 (ss : Int) 1 _ _).mono ?_
  rintro e w4 ⟨rfl, S4⟩
  generalize w2.heap.size = ob at *
  clear S2 S3
  go_wp2_with fail
  refine (HX0.out _ _ ob S4).mono ?_
  rintro e w5 ⟨rfl, S5⟩
  have S6 := S5.drop
  clear S4 S5 HX0
  go_wp2_with (at_builtin; refine wpList_sapp slStr rfl (.tmp 16) (.tmp 23) rfl (g := W) (S := (S6.box #[.string (S TX)] 9 rfl).p1) rfl (Src.block (heap_alloc_new _ _) 1 1 rfl) rfl (by simp [Value.oneCell']) (by unfold maxLen; omega) (by omega) ?_; intro A7 c7 w7 S7)
  have S8 : Sat W w7 (rowA 9 1 (.slice A7 (0 + 1) c7) (0 + 1) (Ss (textB ((orL (ss : Int) [47, 115, ec ss] l).take (0 + 1)))) :: L) := by
    rw [HT0.out]
    exact S7.p1.drop
  clear S6 S7
  go_wp2_with fail
  go_loopw [5, 27] (fun v i wr => ∃ k : Nat, k ≤ l.length ∧ i = .int .i64 (k : Int) ∧ ∃ A c, v = .slice A (k + 1) c ∧ Sat W wr (rowA 9 1 (.slice A (k + 1) c) (k + 1) (Ss (textB ((orL (ss : Int) [47, 115, ec ss] l).take (k + 1)))) :: L)) (fun _ i _ => l.length - (RowKit.intOf i).toNat)
  case atStart => exact ⟨0, by omega, rfl, A7, c7, rfl, S8⟩
  case round =>
    obtain ⟨k, hk, rfl, A9, c9, rfl, S9⟩ := hrel
    clear S8
    by_cases hlt : k < l.length
    · have hk0 : (0 : Int) ≤ (k : Int) := by omega
      have hk1 : (k : Int) < (l.length : Int) := by omega
      obtain ⟨ad, d, rfl, hx, d0⟩ := HAT.out wr _ k S9 (by simp [hm]) hlt
      have HTK := hide (HTA.out k d hx)
      have HXD : Hid (∀ (w' : World) (L' : List Asn) (ob : Nat), Sat W w' (cellsA ob 61 #[.int .i64 2, .string (S [47, 115, ec ss]), .string (S (d.take 60)), .int .i64 (-1), .bool false, .bool false] :: L') → Calls Tryz.prog 24 #[.agg #[.int .i64 3, .int .i64 (ss : Int), .int .i64 (2 + (k : Int)), .int .i64 0, .slice (some ⟨ob, 0, none⟩) 1 1, .string ⟨#[]⟩, .bool false, .bool false]] w' fun e w2 => e = .returned (.string (S (bytesF (orD (ss : Int) [47, 115, ec ss] k d)).1)) ∧ Sat W w2 (cellsA ob 61 #[.int .i64 2, .string (S [47, 115, ec ss]), .string (S (d.take 60)), .int .i64 (-1), .bool false, .bool false] :: L')) := hide fun w' L' ob S' => s_text1 ⟨2, [47, 115, ec ss], d.take 60, -1, false, false⟩ S' rfl (ss : Int) (2 + (k : Int)) (by simp) (by simp; try omega)
      generalize (bytesF (orD (ss : Int) [47, 115, ec ss] k d)).1 = TD at *
      have hw1 : IntKind.i64.wrap (2 + (k : Int)) = 2 + (k : Int) := IntWalk.i64_in _ ⟨by omega, by omega⟩
      have HD : Hid (60 < d.length → (S d).extract 0 60 = S (d.take 60)) := hide fun h => by rw [S_extract]; rfl
      have HD2 : Hid (¬ 60 < d.length → d.take 60 = d) := hide fun h => List.take_of_length_le (by omega)
      by_cases h60 : 60 < d.length
      · have h60i : (60 : Int) < (d.length : Int) := by omega
        have hext := HD.out h60
        have S10 := S9.box #[.int .i64 2, .string (S [47, 115, ec ss]), .string (S (d.take 60)), .int .i64 (-1), .bool false, .bool false] 61 rfl
        go_wp2_with fail
        refine (s_made1 S10 (ss : Int) (2 + (k : Int)) _ _).mono ?_
        rintro e w11 ⟨rfl, S11⟩
        generalize wr.heap.size = ob2 at *
        clear S9 S10 d0 hext
        go_wp2_with fail
        refine (HXD.out _ _ ob2 S11).mono ?_
        rintro e w12 ⟨rfl, S12⟩
        have S13 := S12.drop
        clear S11 S12 HXD
        go_wp2_with (at_builtin; refine wpList_sapp slStr rfl (.tmp 37) (.tmp 47) rfl (g := W) (S := (S13.box #[.string (S TD)] 9 rfl).p1) rfl (Src.block (heap_alloc_new _ _) 1 1 rfl) rfl (by simp [Value.oneCell']) (by unfold maxLen; omega) (by omega) ?_; intro A14 c14 w14 S14)
        have S15 : Sat W w14 (rowA 9 1 (.slice A14 (k + 1 + 1) c14) (k + 1 + 1) (Ss (textB ((orL (ss : Int) [47, 115, ec ss] l).take (k + 1 + 1)))) :: L) := by
          rw [HTK.out]
          have e1 : ∀ (a : List (List UInt8)) (b : List UInt8), Ss (a ++ [b]) = Ss a ++ #[Value.string (S b)].toList := fun a b => by simp [Ss]
          rw [e1]
          exact S14.p1.drop
        clear S13 S14
        go_wp2_with fail
        go_roundw
        case rel => exact ⟨k + 1, by omega, by go_num, A14, c14, rfl, S15⟩
        case measure => simp [RowKit.intOf]; omega
      · have h60i : ¬ (60 : Int) < (d.length : Int) := by omega
        have hd := HD2.out h60
        rw [hd] at HXD
        have S10 := S9.box #[.int .i64 2, .string (S [47, 115, ec ss]), .string (S d), .int .i64 (-1), .bool false, .bool false] 61 rfl
        go_wp2_with fail
        refine (s_made1 S10 (ss : Int) (2 + (k : Int)) _ _).mono ?_
        rintro e w11 ⟨rfl, S11⟩
        generalize wr.heap.size = ob2 at *
        clear S9 S10 d0
        go_wp2_with fail
        refine (HXD.out _ _ ob2 S11).mono ?_
        rintro e w12 ⟨rfl, S12⟩
        have S13 := S12.drop
        clear S11 S12 HXD
        go_wp2_with (at_builtin; refine wpList_sapp slStr rfl (.tmp 37) (.tmp 47) rfl (g := W) (S := (S13.box #[.string (S TD)] 9 rfl).p1) rfl (Src.block (heap_alloc_new _ _) 1 1 rfl) rfl (by simp [Value.oneCell']) (by unfold maxLen; omega) (by omega) ?_; intro A14 c14 w14 S14)
        have S15 : Sat W w14 (rowA 9 1 (.slice A14 (k + 1 + 1) c14) (k + 1 + 1) (Ss (textB ((orL (ss : Int) [47, 115, ec ss] l).take (k + 1 + 1)))) :: L) := by
          rw [HTK.out]
          have e1 : ∀ (a : List (List UInt8)) (b : List UInt8), Ss (a ++ [b]) = Ss a ++ #[Value.string (S b)].toList := fun a b => by simp [Ss]
          rw [e1]
          exact S14.p1.drop
        clear S13 S14
        go_wp2_with fail
        go_roundw
        case rel => exact ⟨k + 1, by omega, by go_num, A14, c14, rfl, S15⟩
        case measure => simp [RowKit.intOf]; omega
    · obtain rfl : k = l.length := by omega
      rw [← HTL.out] at S9
      have HS := hide S9
      clear S9
      go_wp2_with fail
      go_ret
      exact ⟨_, rfl, HS.out⟩
end Go.Proofs.YtbfogieeiobpdaaGreatDoor
