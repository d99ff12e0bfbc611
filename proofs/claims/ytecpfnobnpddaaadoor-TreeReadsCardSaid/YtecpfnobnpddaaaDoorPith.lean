/- Contracts of the package pith: numbers, texts and flags laid behind a row of bytes; a reader that takes them back. No condition. -/
import Derived.Test.YtecpfnobnpddaaaDoorBase
import Derived.Test.YtecpfnobnpddaaaDoorChecked
import Derived.BigQuiet
import Derived.Deep.QuietTactic
set_option linter.unusedVariables false
namespace Go.Proofs.YtecpfnobnpddaaaDoor
open Go.RowKit

theorem slB : Sl Tryd.prog 42 5 1 1 (.int .u8 0) := .mk' Tryd.underlying42 (by kernel_rfl) rfl (by decide)

def clampM (x : Int) : Int := if x < 0 then 0 else if x ≤ 281474976710655 then x else 281474976710655
theorem clampM_lo (x : Int) : 0 ≤ clampM x := by unfold clampM; split; omega; split <;> omega
theorem clampM_hi (x : Int) : clampM x ≤ 281474976710655 := by unfold clampM; split; omega; split <;> omega
/-- the j-th byte of six -/
def nb (y : Int) (j : Nat) : UInt8 := UInt8.ofNat (y / 2 ^ (40 - 8 * j) % 256).toNat
def num6 (x : Int) : List UInt8 := (List.range 6).map (nb (clampM x))
@[simp] theorem num6_length (x : Int) : (num6 x).length = 6 := rfl
theorem B_nb (y : Int) (j : Nat) : B (nb y j) = .int .u8 (y / 2 ^ (40 - 8 * j) % 256) := by
  unfold B nb
  have h0 : 0 ≤ y / 2 ^ (40 - 8 * j) % 256 := Int.emod_nonneg _ (by decide)
  have h1 : y / 2 ^ (40 - 8 * j) % 256 < 256 := Int.emod_lt_of_pos _ (by decide)
  congr 1
  rw [UInt8.toNat_ofNat']
  omega
theorem num6_take (x : Int) (j : Nat) (h : j < 6) : (num6 x).take (j + 1) = (num6 x).take j ++ [nb (clampM x) j] := by
  rw [List.take_succ_eq_append_getElem (by simpa using h)]
  simp [num6]
theorem num6_all (x : Int) : (num6 x).take 6 = num6 x := rfl
def nums (ns : List Int) : List UInt8 := ns.flatMap num6
theorem nums_length (ns : List Int) : (nums ns).length = 6 * ns.length := by
  induction ns with
  | nil => rfl
  | cons a r ih => simp only [nums, List.flatMap_cons, List.length_append, num6_length, List.length_cons] at *; omega
theorem nums_take (ns : List Int) (k : Nat) (x : Int) (h : ns[k]? = some x) : nums (ns.take (k + 1)) = nums (ns.take k) ++ num6 x := by
  obtain ⟨hk, rfl⟩ := List.getElem?_eq_some_iff.1 h
  rw [List.take_succ_eq_append_getElem hk, nums, List.flatMap_append]
  simp [nums]

set_option maxRecDepth 100000 in
theorem num_any (w : World) (v : Value) (n : Nat) (l : List UInt8) (hown : Row w 5 1 v n (Bs l)) (A : Option Addr) (ns : List Int) (c : Nat) (hsrc : Src w 1 A ns.length (Is ns)) (hA : Off (fun k => v.ownBlock = some k) A)
    (hn : n + 6 * ns.length ≤ 1000000000) :
    Calls Tryd.prog 52 #[v, .slice A ns.length c] w fun e w' => ∃ v', e = .returned v' ∧ Row w' 5 1 v' (n + 6 * ns.length) (Bs (l ++ nums ns)) ∧ Grew w v w' v' := by
  go_enter Tryd.func52, Tryd.ntmps52
  go_wp2_with fail
  go_loopw [0, 11] (fun b i wr => ∃ k : Nat, k ≤ ns.length ∧ i = .int .i64 k ∧ ∃ v', b = v' ∧ Row wr 5 1 v' (n + 6 * k) (Bs (l ++ nums (ns.take k))) ∧ Grew w v wr v') (fun _ i _ => ns.length - (intOf i).toNat)
  case atStart => exact ⟨0, by omega, rfl, v, rfl, by simpa [nums] using hown, Grew.refl _ _⟩
  case round =>
    obtain ⟨k, hk, rfl, v', rfl, hown', hg'⟩ := hrel
    by_cases hlt : k < ns.length
    · obtain ⟨ad, u, rfl, hu, hc⟩ := (hsrc.keep hg'.keeps hA).at_ hlt
      simp only [Is, List.getElem?_map, Option.map_eq_some_iff] at hu
      obtain ⟨x, hx, rfl⟩ := hu
      have HX : Hid (ns[k]? = some x) := hx
      clear hx
      go_upto_region 4 with fail
      go_cut [7] (fun s7 wx => s7 = .int .u64 (clampM x) ∧ wx = wr)
      case first =>
        go_wp2_with fail
        all_goals go_meet
        case rel => exact ⟨by unfold clampM; congr 1; split <;> (try split) <;> omega, rfl⟩
        case rel => exact ⟨by unfold clampM; congr 1; split <;> (try split) <;> omega, rfl⟩
        case rel => exact ⟨by unfold clampM; congr 1; split <;> (try split) <;> omega, rfl⟩
      case rest =>
        obtain ⟨rfl, rfl⟩ := hcut
        have hy0 := clampM_lo x
        have hy1 := clampM_hi x
        go_wp2_with fail
        go_loopw [0, 8] (fun b kk wi => ∃ j : Nat, j ≤ 6 ∧ kk = .int .i64 (40 - 8 * (j : Int)) ∧ ∃ v2, b = v2 ∧ Row wi 5 1 v2 (n + 6 * k + j) (Bs (l ++ nums (ns.take k) ++ (num6 x).take j)) ∧ Grew w v wi v2) (fun _ kk _ => (intOf kk + 8).toNat)
        case atStart => exact ⟨0, by omega, rfl, _, rfl, by simpa using hown', hg'⟩
        case round =>
          obtain ⟨j, hj, rfl, v2, rfl, hown2, hg2⟩ := hrel
          by_cases hlj : j < 6
          · go_wp2_with (at_builtin; refine wpList_app slB rfl (.tmp 23) (.tmp 28) rfl (hown2.alloc _) rfl (Src.block (heap_alloc_new _ _) 1 1 rfl) rfl (by simp [Value.oneCell']) (by unfold maxLen; omega) (by omega) ?_; intro v3 w3 hown3 hg3)
            go_roundw
            case rel => exact ⟨j + 1, by omega, by congr 1; omega, v3, rfl, by
              have e : Bs (l ++ nums (ns.take k) ++ (num6 x).take (j + 1)) = Bs (l ++ nums (ns.take k) ++ (num6 x).take j) ++ [.int .u8 (clampM x / 2 ^ (40 - 8 * j) % 256)] := by
                rw [num6_take x j hlj, ← List.append_assoc, Bs_append, ← B_nb]; rfl
              rw [e]; exact hown3, (hg2.alloc _).trans hg3⟩
            case measure => simp [intOf]; omega
          · obtain rfl : j = 6 := by omega
            go_wp2_with fail
            go_roundw
            case rel => exact ⟨k + 1, by omega, by go_num, _, rfl, by rw [nums_take ns k x HX.out, ← List.append_assoc]; exact hown2, hg2⟩
            case measure => simp [intOf]; omega
    · obtain rfl : k = ns.length := by omega
      rw [List.take_length] at hown'
      go_wp2_with fail
      go_ret
      exact ⟨_, rfl, hown', hg'⟩

/-- texts as cells -/
def Ss (l : List (List UInt8)) : List Value := l.map fun s => .string (S s)
@[simp] theorem Ss_length (l : List (List UInt8)) : (Ss l).length = l.length := by simp [Ss]
def cut16 (s : List UInt8) : List UInt8 := s.take 65535
theorem cut16_le (s : List UInt8) : (cut16 s).length ≤ 65535 := List.length_take_le _ _
theorem cut16_big (s : List UInt8) : (S s).extract 0 65535 = S (cut16 s) := by rw [S_extract]; rfl
theorem cut16_all (s : List UInt8) (h : s.length ≤ 65535) : (S s).extract 0 s.length = S (cut16 s) := by
  rw [S_extract, cut16, List.take_of_length_le (Nat.le_refl _), List.take_of_length_le h]; rfl
def len2 (k : Nat) : List UInt8 := [UInt8.ofNat (k / 256), UInt8.ofNat k]
def txt (s : List UInt8) : List UInt8 := len2 (cut16 s).length ++ cut16 s
def txts (ss : List (List UInt8)) : List UInt8 := ss.flatMap txt
theorem txts_take (ss : List (List UInt8)) (k : Nat) (x : List UInt8) (h : ss[k]? = some x) : txts (ss.take (k + 1)) = txts (ss.take k) ++ txt x := by
  obtain ⟨hk, rfl⟩ := List.getElem?_eq_some_iff.1 h
  rw [List.take_succ_eq_append_getElem hk, txts, List.flatMap_append]
  simp [txts]
theorem txt_length (s : List UInt8) : (txt s).length = 2 + (cut16 s).length := by simp [txt, len2]; omega
theorem txts_le (ss : List (List UInt8)) : (txts ss).length ≤ 65537 * ss.length := by
  induction ss with
  | nil => simp [txts]
  | cons a r ih =>
    have := cut16_le a
    have h2 := txt_length a
    simp only [txts, List.flatMap_cons, List.length_append, List.length_cons] at *
    omega

set_option maxRecDepth 100000 in
theorem text_any (w : World) (v : Value) (n : Nat) (l : List UInt8) (hown : Row w 5 1 v n (Bs l)) (A : Option Addr) (ss : List (List UInt8)) (c : Nat) (hsrc : Src w 1 A ss.length (Ss ss)) (hA : Off (fun k => v.ownBlock = some k) A)
    (hn : n + 65537 * ss.length ≤ 1000000000) :
    Calls Tryd.prog 54 #[v, .slice A ss.length c] w fun e w' => ∃ v', e = .returned v' ∧ Row w' 5 1 v' (n + (txts ss).length) (Bs (l ++ txts ss)) ∧ Grew w v w' v' := by
  go_enter Tryd.func54, Tryd.ntmps54
  go_wp2_with fail
  go_loopw [0, 9] (fun b i wr => ∃ k : Nat, k ≤ ss.length ∧ i = .int .i64 k ∧ ∃ v', b = v' ∧ Row wr 5 1 v' (n + (txts (ss.take k)).length) (Bs (l ++ txts (ss.take k))) ∧ Grew w v wr v') (fun _ i _ => ss.length - (intOf i).toNat)
  case atStart => exact ⟨0, by omega, rfl, v, rfl, by simpa [txts] using hown, Grew.refl _ _⟩
  case round =>
    obtain ⟨k, hk, rfl, v', rfl, hown', hg'⟩ := hrel
    by_cases hlt : k < ss.length
    · obtain ⟨ad, u, rfl, hu, hc⟩ := (hsrc.keep hg'.keeps hA).at_ hlt
      simp only [Ss, List.getElem?_map, Option.map_eq_some_iff] at hu
      obtain ⟨x, hx, rfl⟩ := hu
      have HX : Hid (ss[k]? = some x) := hx
      clear hx
      go_upto_region 4 with fail
      go_cut [6] (fun s6 wx => s6 = .string (S (cut16 x)) ∧ wx = wr)
      case first =>
        go_wp2_with fail
        all_goals go_meet
        all_goals (refine ⟨congrArg Value.string ?_, rfl⟩)
        all_goals (first | exact cut16_big x | exact cut16_all x (by omega))
      case rest =>
        obtain ⟨rfl, rfl⟩ := hcut
        have hl1 := cut16_le x
        have hl2 := txts_le (ss.take k)
        have hl3 : (ss.take k).length = k := by simp; omega
        rw [hl3] at hl2
        have HL3 := hide hl3
        clear hl3
        go_wp2_with (first
          | (at_builtin; refine wpList_app slB rfl (.tmp 18) (.tmp 26) rfl (hown'.alloc _) rfl (Src.block (heap_alloc_new _ _) 1 2 rfl) rfl (by simp [Value.oneCell']) (by unfold maxLen; omega) (by omega) ?_; intro v3 w3 hown3 hg3)
          | (at_builtin; refine wpList_app_string slB Tryd.underlying9 rfl (.tmp 28) (.tmp 29) rfl hown3 rfl rfl (by omega) ?_; intro v4 w4 hown4 hg4))
        go_roundw
        case rel =>
          have e : txts (ss.take (k + 1)) = txts (ss.take k) ++ (len2 (cut16 x).length ++ cut16 x) := txts_take ss k x HX.out
          have e2 : Bs (l ++ txts (ss.take (k + 1))) = Bs (l ++ txts (ss.take k)) ++ #[Value.int IntKind.u8 (((cut16 x).length : Int) / 256), Value.int IntKind.u8 (((cut16 x).length : Int) % 256)].toList ++ Bs (cut16 x) := by
            rw [e, ← List.append_assoc, ← List.append_assoc, Bs_append, Bs_append]
            congr 2
            simp only [len2, Bs, List.map_cons, List.map_nil]
            rw [B_ofNat_lt _ (by omega), B_ofNat]
            rfl
          have e3 : n + (txts (ss.take (k + 1))).length = n + (txts (ss.take k)).length + 2 + (cut16 x).length := by
            rw [e]; simp [len2]; omega
          exact ⟨k + 1, by omega, by go_num, v4, rfl, by rw [e2, e3]; exact hown4, ((hg'.alloc _).trans hg3).trans hg4⟩
        case measure => simp [intOf]; omega
    · obtain rfl : k = ss.length := by omega
      rw [List.take_length] at hown'
      go_wp2_with fail
      go_ret
      exact ⟨_, rfl, hown', hg'⟩
end Go.Proofs.YtecpfnobnpddaaaDoor
