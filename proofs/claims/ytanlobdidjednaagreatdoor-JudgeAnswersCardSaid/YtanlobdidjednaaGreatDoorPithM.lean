/- Contracts of the package pith: numbers, texts and flags laid behind a row of bytes; a reader that takes them back. No condition. Contracts of the package pith, second part: flags; a reader. No condition. Contracts of the package pith, third part: a reader's numbers, texts and flags. No condition. Contracts of the package pith, fourth part: the writers, called with a list that was just made. No condition. Contracts of the package pith in pieces of memory: writers, a reader. No condition. -/
import Derived.Test.YtanlobdidjednaaGreatDoorLow
import Derived.Test.YtanlobdidjednaaGreatDoorChecked
import Derived.BigQuiet
import Derived.Deep.QuietTactic
namespace Go.Proofs.YtanlobdidjednaaGreatDoor
section
set_option linter.unusedVariables false
open Go.RowKit

theorem slB : Sl Tryz.prog 99 5 1 1 (.int .u8 0) := .mk' Tryz.underlying99 (by kernel_rfl) rfl (by decide)

def clampM (x : Int) : Int := if x < 0 then 0 else if x ≤ 281474976710655 then x else 281474976710655
theorem clampM_lo (x : Int) : 0 ≤ clampM x := by unfold clampM; split; omega; split <;> omega
theorem clampM_hi (x : Int) : clampM x ≤ 281474976710655 := by unfold clampM; split; omega; split <;> omega
/-- the j-th byte of six -/
def nb (y : Int) (j : Nat) : UInt8 := UInt8.ofNat (y / 2 ^ (40 - 8 * j) % 256).toNat
def num6 (x : Int) : List UInt8 := (List.range 6).map (nb (clampM x))
@[simp] theorem num6_length (x : Int) : (num6 x).length = 6 := rfl
theorem B_nb (y : Int) (j : Nat) : B (nb y j) = .int .u8 (y / 2 ^ (40 - 8 * j) % 256) := by
  unfold B nb
  have h0 : 0 ≤ y / 2 ^ (40 - 8 * j) % 256 := Int.emod_nonneg _ (by decide)
  have h1 : y / 2 ^ (40 - 8 * j) % 256 < 256 := Int.emod_lt_of_pos _ (by decide)
  congr 1
  rw [UInt8.toNat_ofNat']
  omega
theorem num6_take (x : Int) (j : Nat) (h : j < 6) : (num6 x).take (j + 1) = (num6 x).take j ++ [nb (clampM x) j] := by
  rw [List.take_succ_eq_append_getElem (by simpa using h)]
  simp [num6]
theorem num6_all (x : Int) : (num6 x).take 6 = num6 x := rfl
def nums (ns : List Int) : List UInt8 := ns.flatMap num6
theorem nums_length (ns : List Int) : (nums ns).length = 6 * ns.length := by
  induction ns with
  | nil => rfl
  | cons a r ih => simp only [nums, List.flatMap_cons, List.length_append, num6_length, List.length_cons] at *; omega
theorem nums_take (ns : List Int) (k : Nat) (x : Int) (h : ns[k]? = some x) : nums (ns.take (k + 1)) = nums (ns.take k) ++ num6 x := by
  obtain ⟨hk, rfl⟩ := List.getElem?_eq_some_iff.1 h
  rw [List.take_succ_eq_append_getElem hk, nums, List.flatMap_append]
  simp [nums]

set_option maxRecDepth 100000 in
theorem num_any (w : World) (v : Value) (n : Nat) (l : List UInt8) (hown : Row w 5 1 v n (Bs l)) (A : Option Addr) (ns : List Int) (c : Nat) (hsrc : Src w 1 A ns.length (Is ns)) (hA : Off (fun k => v.ownBlock = some k) A)
    (hn : n + 6 * ns.length ≤ 1000000000) :
    Calls Tryz.prog 55 #[v, .slice A ns.length c] w fun e w' => ∃ v', e = .returned v' ∧ Row w' 5 1 v' (n + 6 * ns.length) (Bs (l ++ nums ns)) ∧ Grew w v w' v' := by
  go_enter Tryz.func55, Tryz.ntmps55
  go_wp2_with fail
  go_loopw [0, 11] (fun b i wr => ∃ k : Nat, k ≤ ns.length ∧ i = .int .i64 k ∧ ∃ v', b = v' ∧ Row wr 5 1 v' (n + 6 * k) (Bs (l ++ nums (ns.take k))) ∧ Grew w v wr v') (fun _ i _ => ns.length - (intOf i).toNat)
  case atStart => exact ⟨0, by omega, rfl, v, rfl, by simpa [nums] using hown, Grew.refl _ _⟩
  case round =>
    obtain ⟨k, hk, rfl, v', rfl, hown', hg'⟩ := hrel
    by_cases hlt : k < ns.length
    · obtain ⟨ad, u, rfl, hu, hc⟩ := (hsrc.keep hg'.keeps hA).at_ hlt
      simp only [Is, List.getElem?_map, Option.map_eq_some_iff] at hu
      obtain ⟨x, hx, rfl⟩ := hu
      have HX : Hid (ns[k]? = some x) := hx
      clear hx
      go_upto_region 4 with fail
      go_cut [7] (fun s7 wx => s7 = .int .u64 (clampM x) ∧ wx = wr)
      case first =>
        go_wp2_with fail
        all_goals go_meet
        case rel => exact ⟨by unfold clampM; congr 1; split <;> (try split) <;> omega, rfl⟩
        case rel => exact ⟨by unfold clampM; congr 1; split <;> (try split) <;> omega, rfl⟩
        case rel => exact ⟨by unfold clampM; congr 1; split <;> (try split) <;> omega, rfl⟩
      case rest =>
        obtain ⟨rfl, rfl⟩ := hcut
        have hy0 := clampM_lo x
        have hy1 := clampM_hi x
        go_wp2_with fail
        go_loopw [0, 8] (fun b kk wi => ∃ j : Nat, j ≤ 6 ∧ kk = .int .i64 (40 - 8 * (j : Int)) ∧ ∃ v2, b = v2 ∧ Row wi 5 1 v2 (n + 6 * k + j) (Bs (l ++ nums (ns.take k) ++ (num6 x).take j)) ∧ Grew w v wi v2) (fun _ kk _ => (intOf kk + 8).toNat)
        case atStart => exact ⟨0, by omega, rfl, _, rfl, by simpa using hown', hg'⟩
        case round =>
          obtain ⟨j, hj, rfl, v2, rfl, hown2, hg2⟩ := hrel
          by_cases hlj : j < 6
          · go_wp2_with (at_builtin; refine wpList_app slB rfl (.tmp 23) (.tmp 28) rfl (hown2.alloc _) rfl (Src.block (heap_alloc_new _ _) 1 1 rfl) rfl (by simp [Value.oneCell']) (by unfold maxLen; omega) (by omega) ?_; intro v3 w3 hown3 hg3)
            go_roundw
            case rel => exact ⟨j + 1, by omega, by congr 1; omega, v3, rfl, by
              have e : Bs (l ++ nums (ns.take k) ++ (num6 x).take (j + 1)) = Bs (l ++ nums (ns.take k) ++ (num6 x).take j) ++ [.int .u8 (clampM x / 2 ^ (40 - 8 * j) % 256)] := by
                rw [num6_take x j hlj, ← List.append_assoc, Bs_append, ← B_nb]; rfl
              rw [e]; exact hown3, (hg2.alloc _).trans hg3⟩
            case measure => simp [intOf]; omega
          · obtain rfl : j = 6 := by omega
            go_wp2_with fail
            go_roundw
            case rel => exact ⟨k + 1, by omega, by go_num, _, rfl, by rw [nums_take ns k x HX.out, ← List.append_assoc]; exact hown2, hg2⟩
            case measure => simp [intOf]; omega
    · obtain rfl : k = ns.length := by omega
      rw [List.take_length] at hown'
      go_wp2_with fail
      go_ret
      exact ⟨_, rfl, hown', hg'⟩

/-- texts as cells -/
def Ss (l : List (List UInt8)) : List Value := l.map fun s => .string (S s)
@[simp] theorem Ss_length (l : List (List UInt8)) : (Ss l).length = l.length := by simp [Ss]
def cut16 (s : List UInt8) : List UInt8 := s.take 65535
theorem cut16_le (s : List UInt8) : (cut16 s).length ≤ 65535 := List.length_take_le _ _
theorem cut16_big (s : List UInt8) : (S s).extract 0 65535 = S (cut16 s) := by rw [S_extract]; rfl
theorem cut16_all (s : List UInt8) (h : s.length ≤ 65535) : (S s).extract 0 s.length = S (cut16 s) := by
  rw [S_extract, cut16, List.take_of_length_le (Nat.le_refl _), List.take_of_length_le h]; rfl
def len2 (k : Nat) : List UInt8 := [UInt8.ofNat (k / 256), UInt8.ofNat k]
def txt (s : List UInt8) : List UInt8 := len2 (cut16 s).length ++ cut16 s
def txts (ss : List (List UInt8)) : List UInt8 := ss.flatMap txt
theorem txts_take (ss : List (List UInt8)) (k : Nat) (x : List UInt8) (h : ss[k]? = some x) : txts (ss.take (k + 1)) = txts (ss.take k) ++ txt x := by
  obtain ⟨hk, rfl⟩ := List.getElem?_eq_some_iff.1 h
  rw [List.take_succ_eq_append_getElem hk, txts, List.flatMap_append]
  simp [txts]
theorem txt_length (s : List UInt8) : (txt s).length = 2 + (cut16 s).length := by simp [txt, len2]; omega
theorem txts_le (ss : List (List UInt8)) : (txts ss).length ≤ 65537 * ss.length := by
  induction ss with
  | nil => simp [txts]
  | cons a r ih =>
    have := cut16_le a
    have h2 := txt_length a
    simp only [txts, List.flatMap_cons, List.length_append, List.length_cons] at *
    omega

set_option maxRecDepth 100000 in
theorem text_any (w : World) (v : Value) (n : Nat) (l : List UInt8) (hown : Row w 5 1 v n (Bs l)) (A : Option Addr) (ss : List (List UInt8)) (c : Nat) (hsrc : Src w 1 A ss.length (Ss ss)) (hA : Off (fun k => v.ownBlock = some k) A)
    (hn : n + 65537 * ss.length ≤ 1000000000) :
    Calls Tryz.prog 57 #[v, .slice A ss.length c] w fun e w' => ∃ v', e = .returned v' ∧ Row w' 5 1 v' (n + (txts ss).length) (Bs (l ++ txts ss)) ∧ Grew w v w' v' := by
  go_enter Tryz.func57, Tryz.ntmps57
  go_wp2_with fail
  go_loopw [0, 9] (fun b i wr => ∃ k : Nat, k ≤ ss.length ∧ i = .int .i64 k ∧ ∃ v', b = v' ∧ Row wr 5 1 v' (n + (txts (ss.take k)).length) (Bs (l ++ txts (ss.take k))) ∧ Grew w v wr v') (fun _ i _ => ss.length - (intOf i).toNat)
  case atStart => exact ⟨0, by omega, rfl, v, rfl, by simpa [txts] using hown, Grew.refl _ _⟩
  case round =>
    obtain ⟨k, hk, rfl, v', rfl, hown', hg'⟩ := hrel
    by_cases hlt : k < ss.length
    · obtain ⟨ad, u, rfl, hu, hc⟩ := (hsrc.keep hg'.keeps hA).at_ hlt
      simp only [Ss, List.getElem?_map, Option.map_eq_some_iff] at hu
      obtain ⟨x, hx, rfl⟩ := hu
      have HX : Hid (ss[k]? = some x) := hx
      clear hx
      go_upto_region 4 with fail
      go_cut [6] (fun s6 wx => s6 = .string (S (cut16 x)) ∧ wx = wr)
      case first =>
        go_wp2_with fail
        all_goals go_meet
        all_goals (refine ⟨congrArg Value.string ?_, rfl⟩)
        all_goals (first | exact cut16_big x | exact cut16_all x (by omega))
      case rest =>
        obtain ⟨rfl, rfl⟩ := hcut
        have hl1 := cut16_le x
        have hl2 := txts_le (ss.take k)
        have hl3 : (ss.take k).length = k := by simp; omega
        rw [hl3] at hl2
        have HL3 := hide hl3
        clear hl3
        go_wp2_with (first
          | (at_builtin; refine wpList_app slB rfl (.tmp 18) (.tmp 26) rfl (hown'.alloc _) rfl (Src.block (heap_alloc_new _ _) 1 2 rfl) rfl (by simp [Value.oneCell']) (by unfold maxLen; omega) (by omega) ?_; intro v3 w3 hown3 hg3)
          | (at_builtin; refine wpList_app_string slB Tryz.underlying9 rfl (.tmp 28) (.tmp 29) rfl hown3 rfl rfl (by omega) ?_; intro v4 w4 hown4 hg4))
        go_roundw
        case rel =>
          have e : txts (ss.take (k + 1)) = txts (ss.take k) ++ (len2 (cut16 x).length ++ cut16 x) := txts_take ss k x HX.out
          have e2 : Bs (l ++ txts (ss.take (k + 1))) = Bs (l ++ txts (ss.take k)) ++ #[Value.int IntKind.u8 (((cut16 x).length : Int) / 256), Value.int IntKind.u8 (((cut16 x).length : Int) % 256)].toList ++ Bs (cut16 x) := by
            rw [e, ← List.append_assoc, ← List.append_assoc, Bs_append, Bs_append]
            congr 2
            simp only [len2, Bs, List.map_cons, List.map_nil]
            rw [B_ofNat_lt _ (by omega), B_ofNat]
            rfl
          have e3 : n + (txts (ss.take (k + 1))).length = n + (txts (ss.take k)).length + 2 + (cut16 x).length := by
            rw [e]; simp [len2]; omega
          exact ⟨k + 1, by omega, by go_num, v4, rfl, by rw [e2, e3]; exact hown4, ((hg'.alloc _).trans hg3).trans hg4⟩
        case measure => simp [intOf]; omega
    · obtain rfl : k = ss.length := by omega
      rw [List.take_length] at hown'
      go_wp2_with fail
      go_ret
      exact ⟨_, rfl, hown', hg'⟩
end

section
set_option linter.unusedVariables false
open Go.RowKit

/-- flags as cells -/
def Fs (l : List Bool) : List Value := l.map Value.bool
@[simp] theorem Fs_length (l : List Bool) : (Fs l).length = l.length := by simp [Fs]
def fb (b : Bool) : UInt8 := if b then 1 else 0
def flags (l : List Bool) : List UInt8 := l.map fb
theorem flags_take (l : List Bool) (k : Nat) (x : Bool) (h : l[k]? = some x) : flags (l.take (k + 1)) = flags (l.take k) ++ [fb x] := by
  obtain ⟨hk, rfl⟩ := List.getElem?_eq_some_iff.1 h
  rw [List.take_succ_eq_append_getElem hk, flags, List.map_append]
  rfl

set_option maxRecDepth 100000 in
theorem flag_any (w : World) (v : Value) (n : Nat) (l : List UInt8) (hown : Row w 5 1 v n (Bs l)) (A : Option Addr) (fs : List Bool) (c : Nat) (hsrc : Src w 1 A fs.length (Fs fs)) (hA : Off (fun k => v.ownBlock = some k) A)
    (hn : n + fs.length ≤ 1000000000) :
    Calls Tryz.prog 56 #[v, .slice A fs.length c] w fun e w' => ∃ v', e = .returned v' ∧ Row w' 5 1 v' (n + fs.length) (Bs (l ++ flags fs)) ∧ Grew w v w' v' := by
  go_enter Tryz.func56, Tryz.ntmps56
  go_wp2_with fail
  go_loopw [0, 10] (fun b i wr => ∃ k : Nat, k ≤ fs.length ∧ i = .int .i64 k ∧ ∃ v', b = v' ∧ Row wr 5 1 v' (n + k) (Bs (l ++ flags (fs.take k))) ∧ Grew w v wr v') (fun _ i _ => fs.length - (intOf i).toNat)
  case atStart => exact ⟨0, by omega, rfl, v, rfl, by simpa [flags] using hown, Grew.refl _ _⟩
  case round =>
    obtain ⟨k, hk, rfl, v', rfl, hown', hg'⟩ := hrel
    by_cases hlt : k < fs.length
    · obtain ⟨ad, u, rfl, hu, hc⟩ := (hsrc.keep hg'.keeps hA).at_ hlt
      simp only [Fs, List.getElem?_map, Option.map_eq_some_iff] at hu
      obtain ⟨x, hx, rfl⟩ := hu
      have HX : Hid (fs[k]? = some x) := hx
      clear hx
      cases x
      all_goals
        go_wp2_with (at_builtin; refine wpList_app slB rfl (.tmp 15) (.tmp 17) rfl (hown'.alloc _) rfl (Src.block (heap_alloc_new _ _) 1 1 rfl) rfl (by simp [Value.oneCell']) (by unfold maxLen; omega) (by omega) ?_; intro v3 w3 hown3 hg3)
        go_roundw
        case rel =>
          refine ⟨k + 1, by omega, by go_num, v3, rfl, ?_, (hg'.alloc _).trans hg3⟩
          rw [flags_take fs k _ HX.out, ← List.append_assoc, Bs_append]
          exact hown3
        case measure => simp [intOf]; omega
    · obtain rfl : k = fs.length := by omega
      rw [List.take_length] at hown'
      go_wp2_with fail
      go_ret
      exact ⟨_, rfl, hown', hg'⟩

/-! ### the reader -/
/-- what is left of its bytes; whether there was an error -/
abbrev RS := List UInt8 × Bool
def Rd (w : World) (r : Nat) (x : RS) : Prop := w.heap[r]? = some (.cells #[.string (S x.1), .bool x.2] 98 (0, 0))
/-- a pointer to block r -/
abbrev ptr (r : Nat) : Value := .pointer (some ⟨r, 0, none⟩)

theorem Rd.c0 {w r x} (h : Rd w r x) : w.cell? ⟨r, 0, none⟩ = some (.string (S x.1)) := by
  unfold Rd at h; simp [World.cell?, h]
theorem Rd.c1 {w r x} (h : Rd w r x) : w.cell? ⟨r, 1, none⟩ = some (.bool x.2) := by
  unfold Rd at h; simp [World.cell?, h]
theorem Rd.fz {w r x} (h : Rd w r x) (i : Nat) : w.frozen? ⟨r, i, none⟩ = false := by
  unfold Rd at h; simp [World.frozen?, h]
theorem Rd.lt {w r x} (h : Rd w r x) : r < w.heap.size := heap_lt h
theorem Rd.kept {w w' r x} {F : Nat → Prop} (h : Rd w r x) (hk : Keeps F w w') (hF : ¬ F r) : Rd w' r x := hk.heap h hF
theorem Rd.drewN {w r x} (h : Rd w r x) (n : Nat) : Rd (w.drewN n) r x := h
theorem Rd.set0 {w r x} (h : Rd w r x) (s : List UInt8) : Rd (w.setCell ⟨r, 0, none⟩ (.string (S s))) r (s, x.2) := by
  unfold Rd at h ⊢; simp [World.setCell, Array.getElem?_modify, h]
theorem Rd.set1 {w r x} (h : Rd w r x) (b : Bool) : Rd (w.setCell ⟨r, 1, none⟩ (.bool b)) r (x.1, b) := by
  unfold Rd at h ⊢; simp [World.setCell, Array.getElem?_modify, h]

def fl : RS := ([], true)
def tk (x : RS) (n : Nat) : List UInt8 × RS := if x.2 = true ∨ x.1.length < n then ([], fl) else (x.1.take n, (x.1.drop n, false))

theorem fail_any (w : World) (r : Nat) (x : RS) (h : Rd w r x) :
    Calls Tryz.prog 47 #[ptr r] w fun e w' => e = .returned (.tuple #[]) ∧ Rd w' r fl ∧ Keeps (fun k => k = r) w w' := by
  have c0 := h.c0
  have c1 := h.c1
  have f0 := h.fz 0
  have f1 := h.fz 1
  have hfin := (h.set0 []).set1 true
  have hk := ((Keeps.refl (fun k => k = r) w).setCell (p := ⟨r, 0, none⟩) (fun _ => rfl) (.string (S []))).setCell (p := ⟨r, 1, none⟩) (fun _ => rfl) (.bool true)
  clear h
  go_enter Tryz.func47, Tryz.ntmps47
  go_wp2
  go_end0
  exact ⟨rfl, hfin, hk⟩

theorem tk_len (x : RS) (n : Nat) : (tk x n).1.length = n ∨ (tk x n).1 = [] := by
  unfold tk
  split
  · exact .inr rfl
  · left; simp; omega
theorem tk_le (x : RS) (n : Nat) : (tk x n).2.1.length ≤ x.1.length := by
  unfold tk
  split <;> simp [fl]

theorem take_any (w : World) (r : Nat) (n : Int) (x : RS) (hn : 0 ≤ n) (hs : x.1.length ≤ 9223372036854775807) (h : Rd w r x) :
    Calls Tryz.prog 46 #[ptr r, .int .i64 n] w fun e w' => e = .returned (.string (S (tk x n.toNat).1)) ∧ Rd w' r (tk x n.toNat).2 ∧ Keeps (fun k => k = r) w w' := by
  obtain ⟨n, rfl⟩ := Int.eq_ofNat_of_zero_le hn
  obtain ⟨s, bad⟩ := x
  rw [Int.toNat_natCast]
  have c0 := h.c0
  have c1 := h.c1
  have hf := fail_any w r _ h
  simp only at c0 c1 hs
  by_cases hb : bad = true
  · subst hb
    have e : tk (s, true) n = ([], fl) := by simp [tk]
    rw [e]
    clear h e
    go_enter Tryz.func46, Tryz.ntmps46
    go_wp2_with fail
    refine hf.mono ?_
    rintro e w' ⟨rfl, hq⟩
    go_wp2_with fail
    go_ret
    exact ⟨rfl, hq⟩
  · obtain rfl : bad = false := by simpa using hb
    by_cases hl : s.length < n
    · have e : tk (s, false) n = ([], fl) := by simp [tk, hl]
      rw [e]
      clear h e
      go_enter Tryz.func46, Tryz.ntmps46
      go_wp2_with fail
      refine hf.mono ?_
      rintro e w' ⟨rfl, hq⟩
      go_wp2_with fail
      go_ret
      exact ⟨rfl, hq⟩
    · have e : tk (s, false) n = (s.take n, (s.drop n, false)) := by simp [tk, hl]
      have f0 := h.fz 0
      have h2 := hide (h.set0 (s.drop n))
      have e1 : (S s).extract 0 n = S (s.take n) := by rw [S_extract]; rfl
      have e2 : (S s).extract n s.length = S (s.drop n) := by rw [S_extract, List.take_length]
      rw [e]
      clear h e hf
      go_enter Tryz.func46, Tryz.ntmps46
      go_wp2_with fail
      go_ret
      exact ⟨rfl, h2.out, (Keeps.refl (fun k => k = r) w).setCell (p := ⟨r, 0, none⟩) (fun _ => rfl) _⟩
end

section
set_option linter.unusedVariables false
open Go.RowKit

/-- bytes as a number, the highest one first -/
def be (l : List UInt8) : Int := l.foldl (fun (x : Int) (c : UInt8) => x * 256 + (c.toNat : Int)) 0
theorem be_snoc (l : List UInt8) (c : UInt8) : be (l ++ [c]) = be l * 256 + c.toNat := by simp [be]
theorem be_from (l : List UInt8) : ∀ x : Int, 0 ≤ x → 0 ≤ l.foldl (fun (x : Int) (c : UInt8) => x * 256 + (c.toNat : Int)) x ∧ l.foldl (fun (x : Int) (c : UInt8) => x * 256 + (c.toNat : Int)) x < (x + 1) * 256 ^ l.length := by
  induction l with
  | nil => intro x h; simp; omega
  | cons c l ih =>
    intro x h
    have hc := c.toNat_lt
    obtain ⟨h1, h2⟩ := ih (x * 256 + c.toNat) (by omega)
    refine ⟨h1, Int.lt_of_lt_of_le h2 ?_⟩
    rw [List.length_cons, Int.pow_succ, Int.mul_comm (256 ^ l.length) 256, ← Int.mul_assoc]
    exact Int.mul_le_mul_of_nonneg_right (by omega) (Int.le_of_lt (Int.pow_pos (by decide)))
theorem be_nonneg (l : List UInt8) : 0 ≤ be l := (be_from l 0 (Int.le_refl _)).1
theorem be_lt (l : List UInt8) : be l < 256 ^ l.length := by have := (be_from l 0 (Int.le_refl _)).2; simpa [be] using this
theorem be_lt5 (l : List UInt8) (h : l.length ≤ 5) : be l < 1099511627776 := by
  have h1 := be_lt l
  have h2 : l.length = 0 ∨ l.length = 1 ∨ l.length = 2 ∨ l.length = 3 ∨ l.length = 4 ∨ l.length = 5 := by omega
  rcases h2 with h | h | h | h | h | h <;> rw [h] at h1 <;> omega
theorem be_take (l : List UInt8) (k : Nat) (c : UInt8) (h : l[k]? = some c) : be (l.take (k + 1)) = be (l.take k) * 256 + c.toNat := by
  obtain ⟨hk, rfl⟩ := List.getElem?_eq_some_iff.1 h
  rw [List.take_succ_eq_append_getElem hk, be_snoc]
def rn (x : RS) (most : Int) : Int × RS := if max most 0 < be (tk x 6).1 then (0, fl) else (be (tk x 6).1, (tk x 6).2)

theorem or_byte_nat (a c : Nat) (hc : c < 256) (ha : a < 36028797018963967) : bits .or .i64 ((a : Int) * 256) (c : Int) = (a : Int) * 256 + c := by
  have e : ((a : Int) * 256) = ((256 * a : Nat) : Int) := by omega
  rw [e]
  have h1 : (BitVec.ofInt 64 ((256 * a : Nat) : Int)).toNat = 256 * a := by
    rw [BitVec.ofInt_natCast, BitVec.toNat_ofNat]; exact Nat.mod_eq_of_lt (by omega)
  have h2 : (BitVec.ofInt 64 (c : Int)).toNat = c := by
    rw [BitVec.ofInt_natCast, BitVec.toNat_ofNat]; exact Nat.mod_eq_of_lt (by omega)
  have h3 : 256 * a + c = 256 * a ||| c := Nat.two_pow_add_eq_or_of_lt (i := 8) hc a
  show IntKind.i64.wrap ((BitVec.ofInt 64 ((256 * a : Nat) : Int) ||| BitVec.ofInt 64 (c : Int)).toNat : Int) = _
  rw [BitVec.toNat_or, h1, h2, ← h3, IntWalk.i64_in _ ⟨by omega, by omega⟩]
  omega
theorem or_byte (x : Int) (c : UInt8) (h : 0 ≤ x) (h2 : x < 1099511627776) : bits .or .i64 (x * 256) (c.toNat : Int) = x * 256 + c.toNat := by
  obtain ⟨a, rfl⟩ := Int.eq_ofNat_of_zero_le h
  exact or_byte_nat a c.toNat c.toNat_lt (by omega)

set_option maxRecDepth 100000 in
theorem num_reads (w : World) (r : Nat) (most : Int) (x : RS) (hs : x.1.length ≤ 9223372036854775807) (h : Rd w r x) :
    Calls Tryz.prog 24 #[ptr r, .int .i64 most] w fun e w' => e = .returned (.int .i64 (rn x most).1) ∧ Rd w' r (rn x most).2 ∧ Keeps (fun k => k = r) w w' := by
  have ht := take_any w r 6 x (by omega) hs h
  have hlen := tk_len x 6
  have h6 : (Int.toNat 6) = 6 := rfl
  rw [h6] at ht
  unfold rn
  generalize tk x 6 = T at *
  obtain ⟨t, x1⟩ := T
  simp only at ht hlen ⊢
  have hl6 : t.length ≤ 6 := by rcases hlen with h | h <;> simp [h]
  have HH := hide h
  clear h h6 hlen hs
  generalize hR : (if max most 0 < be t then (0, fl) else (be t, x1)) = R
  have HR := hide hR
  clear hR
  go_enter Tryz.func24, Tryz.ntmps24
  go_wp2_with fail
  refine ht.mono ?_
  rintro e w1 ⟨rfl, hr1, hk1⟩
  obtain ⟨c, w2, hconv, hsrc, hk2⟩ := run_toBytes (P := Tryz.prog) w1 Tryz.underlying9 Tryz.underlying99 Tryz.underlying5 t
  have hr2 := hr1.kept hk2 (fun h => h)
  have hk3 := hk1.trans hk2 (fun _ _ h => h.elim)
  clear ht hr1 hk1 hk2
  go_wp2_with fail
  clear hconv
  go_loop [5, 12] (fun s i => ∃ k : Nat, k ≤ t.length ∧ i = .int .i64 k ∧ s = .int .i64 (be (t.take k))) (fun _ i => t.length - (intOf i).toNat)
  case atStart => exact ⟨0, by omega, rfl, rfl⟩
  case round =>
    obtain ⟨k, hk, rfl, rfl⟩ := hrel
    by_cases hlt : k < t.length
    · obtain ⟨u, hu, hc⟩ := hsrc.at0 hlt
      simp only [Bs, List.getElem?_map, Option.map_eq_some_iff] at hu
      obtain ⟨b, hb, rfl⟩ := hu
      have hb0 := be_nonneg (t.take k)
      have hb1 := be_lt5 (t.take k) (by simp; omega)
      have hb2 := b.toNat_lt
      have HB := hide hb
      clear hb
      unfold B at hc
      go_wp2_with fail
      go_round
      case rel =>
        refine ⟨k + 1, by omega, by go_num, ?_⟩
        rw [be_take t k b HB.out, or_byte _ _ hb0 hb1]
      case measure => simp [intOf]; omega
    · obtain rfl : k = t.length := by omega
      rw [List.take_length]
      have hbe := be_nonneg t
      go_wp2_with fail
      all_goals first
        | (refine (fail_any _ r x1 hr2).mono ?_
           rintro e w3 ⟨rfl, hr3, hk4⟩
           go_wp2_with fail
           go_ret
           have e1 : R = (0, fl) := by rw [← HR.out, if_pos (by omega)]
           subst e1
           exact ⟨rfl, hr3, hk3.trans' hk4⟩)
        | (go_ret
           have e1 : R = (be t, x1) := by rw [← HR.out, if_neg (by omega)]
           subst e1
           exact ⟨rfl, hr2, hk3⟩)
theorem rn_lo (x : RS) (most : Int) : 0 ≤ (rn x most).1 := by
  unfold rn
  split
  · exact Int.le_refl _
  · exact be_nonneg _
theorem rn_hi (x : RS) (most : Int) (h : 0 ≤ most) : (rn x most).1 ≤ most := by
  unfold rn
  split
  · exact h
  · show be _ ≤ most
    omega
theorem rn_le (x : RS) (most : Int) : (rn x most).2.1.length ≤ x.1.length := by
  unfold rn
  split
  · simp [fl]
  · exact tk_le x 6

/-! ### texts -/
def rt (x : RS) (most : Int) : List UInt8 × RS :=
  if (tk x 2).1 = [] then ([], (tk x 2).2) else tk (if most < be (tk x 2).1 then fl else (tk x 2).2) (be (tk x 2).1).toNat

theorem be_two (a b : UInt8) : be [a, b] = (a.toNat : Int) * 256 + b.toNat := by simp [be]

set_option maxRecDepth 100000 in
theorem text_reads (w : World) (r : Nat) (most : Int) (x : RS) (hs : x.1.length ≤ 9223372036854775807) (h : Rd w r x) :
    Calls Tryz.prog 25 #[ptr r, .int .i64 most] w fun e w' => e = .returned (.string (S (rt x most).1)) ∧ Rd w' r (rt x most).2 ∧ Keeps (fun k => k = r) w w' := by
  have ht := take_any w r 2 x (by omega) hs h
  have hlen := tk_len x 2
  have hle := tk_le x 2
  have h6 : (Int.toNat 2) = 2 := rfl
  rw [h6] at ht
  unfold rt
  generalize tk x 2 = T at *
  obtain ⟨t, x1⟩ := T
  simp only at ht hlen hle ⊢
  rcases hlen with hl2 | hnil
  · obtain ⟨a, b, rfl⟩ : ∃ a b, t = [a, b] := by
      match t, hl2 with
      | [a, b], _ => exact ⟨a, b, rfl⟩
    have ha := a.toNat_lt
    have hb := b.toNat_lt
    simp only [be_two]
    rw [if_neg (by simp)]
    have HH := hide h
    clear h h6 hl2
    generalize hR : tk (if most < (a.toNat : Int) * 256 + b.toNat then fl else x1) ((a.toNat : Int) * 256 + b.toNat).toNat = R
    have HR := hide hR
    clear hR
    have hor := or_byte a.toNat b (by omega) (by omega)
    have hz : (2 : Nat) = [a, b].length := rfl
    have hkk : 0 ≤ (a.toNat : Int) * 256 + b.toNat := by omega
    by_cases hm : most < (a.toNat : Int) * 256 + b.toNat
    · go_enter Tryz.func25, Tryz.ntmps25
      go_wp2_with fail
      refine ht.mono ?_
      rintro e w1 ⟨rfl, hr1, hk1⟩
      go_wp2_with fail
      go_quiet (fail)
      go_wp2_with fail
      refine (fail_any _ r x1 (hr1.drewN _)).mono ?_
      rintro e w2 ⟨rfl, hr2, hk2⟩
      go_wp2_with fail
      refine (take_any _ r _ fl hkk (by simp [fl]) hr2).mono ?_
      rintro e w3 ⟨rfl, hr3, hk3⟩
      go_wp2_with fail
      go_ret
      have e1 : R = tk fl ((a.toNat : Int) * 256 + b.toNat).toNat := by rw [← HR.out, if_pos hm]
      subst e1
      exact ⟨rfl, hr3, (hk1.drewN _).trans' (hk2.trans' hk3)⟩
    · go_enter Tryz.func25, Tryz.ntmps25
      go_wp2_with fail
      refine ht.mono ?_
      rintro e w1 ⟨rfl, hr1, hk1⟩
      go_wp2_with fail
      go_quiet (fail)
      go_wp2_with fail
      refine (take_any _ r _ x1 hkk (by omega) (hr1.drewN _)).mono ?_
      rintro e w3 ⟨rfl, hr3, hk3⟩
      go_wp2_with fail
      go_ret
      have e1 : R = tk x1 ((a.toNat : Int) * 256 + b.toNat).toNat := by rw [← HR.out, if_neg (by omega)]
      subst e1
      exact ⟨rfl, hr3, (hk1.drewN _).trans' hk3⟩
  · subst hnil
    go_enter Tryz.func25, Tryz.ntmps25
    go_wp2_with fail
    refine ht.mono ?_
    rintro e w1 ⟨rfl, hr1, hk1⟩
    go_wp2_with fail
    go_ret
    exact ⟨rfl, hr1, hk1⟩

theorem rt_le (x : RS) (most : Int) : (rt x most).2.1.length ≤ x.1.length := by
  unfold rt
  split
  · exact tk_le x 2
  · refine Nat.le_trans (tk_le _ _) ?_
    split
    · simp [fl]
    · exact tk_le x 2
/-- a text is no longer than asked -/
theorem rt_len (x : RS) (most : Int) (h : 0 ≤ most) : ((rt x most).1.length : Int) ≤ most := by
  unfold rt
  split
  · exact h
  · rename_i hne
    have hb := be_nonneg (tk x 2).1
    split
    · simp [tk, fl]; exact h
    · rcases tk_len (tk x 2).2 (be (tk x 2).1).toNat with h1 | h1 <;> rw [h1]
      · omega
      · exact h

/-! ### flags, and whether there was an error -/
def rf (x : RS) : Bool × RS :=
  match (tk x 1).1 with
  | [] => (false, (tk x 1).2)
  | c :: _ => if 1 < c.toNat then (false, fl) else (c == 1, (tk x 1).2)

theorem flag_reads (w : World) (r : Nat) (x : RS) (hs : x.1.length ≤ 9223372036854775807) (h : Rd w r x) :
    Calls Tryz.prog 26 #[ptr r] w fun e w' => e = .returned (.bool (rf x).1) ∧ Rd w' r (rf x).2 ∧ Keeps (fun k => k = r) w w' := by
  have ht := take_any w r 1 x (by omega) hs h
  have hlen := tk_len x 1
  have h6 : (Int.toNat 1) = 1 := rfl
  rw [h6] at ht
  unfold rf
  generalize tk x 1 = T at *
  obtain ⟨t, x1⟩ := T
  simp only at ht hlen ⊢
  rcases hlen with hl2 | hnil
  · obtain ⟨a, rfl⟩ : ∃ a, t = [a] := by
      match t, hl2 with
      | [a], _ => exact ⟨a, rfl⟩
    have ha := a.toNat_lt
    simp only
    have HH := hide h
    clear h h6 hl2
    by_cases hm : 1 < a.toNat
    · rw [if_pos hm]
      have hm2 : (1 : Int) < (a.toNat : Int) := by omega
      go_enter Tryz.func26, Tryz.ntmps26
      go_wp2_with fail
      refine ht.mono ?_
      rintro e w1 ⟨rfl, hr1, hk1⟩
      go_wp2_with fail
      refine (fail_any _ r x1 hr1).mono ?_
      rintro e w2 ⟨rfl, hr2, hk2⟩
      go_wp2_with fail
      go_ret
      exact ⟨rfl, hr2, hk1.trans' hk2⟩
    · rw [if_neg hm]
      go_enter Tryz.func26, Tryz.ntmps26
      go_wp2_with fail
      refine ht.mono ?_
      rintro e w1 ⟨rfl, hr1, hk1⟩
      go_wp2_with fail
      go_ret
      exact ⟨rfl, hr1, hk1⟩
  · subst hnil
    go_enter Tryz.func26, Tryz.ntmps26
    go_wp2_with fail
    refine ht.mono ?_
    rintro e w1 ⟨rfl, hr1, hk1⟩
    go_wp2_with fail
    go_ret
    exact ⟨rfl, hr1, hk1⟩

def rdone (x : RS) : Int := if x.2 = true ∨ x.1 ≠ [] then 2 else 0

theorem ok_reads (w : World) (r : Nat) (x : RS) (h : Rd w r x) :
    Calls Tryz.prog 48 #[ptr r] w fun e w' => e = .returned (.bool (!x.2)) ∧ w = w' := by
  have c1 := h.c1
  obtain ⟨s, bad⟩ := x
  simp only at c1 ⊢
  clear h
  go_enter Tryz.func48, Tryz.ntmps48
  go_wp2_with fail
  go_ret
  exact ⟨rfl, rfl⟩

theorem done_reads (w : World) (r : Nat) (x : RS) (h : Rd w r x) :
    Calls Tryz.prog 27 #[ptr r] w fun e w' => e = .returned (.int .i64 (rdone x)) ∧ w = w' := by
  have c0 := h.c0
  have ho := ok_reads w r x h
  obtain ⟨s, bad⟩ := x
  simp only at c0 ho ⊢
  clear h
  cases bad
  · by_cases hs : s = []
    · subst hs
      go_enter Tryz.func27, Tryz.ntmps27
      go_wp2_with fail
      refine ho.mono ?_
      rintro e w1 ⟨rfl, rfl⟩
      go_wp2_with fail
      go_ret
      exact ⟨rfl, rfl⟩
    · have e : rdone (s, false) = 2 := by simp [rdone, hs]
      rw [e]
      have hs2 : s.isEmpty = false := by simpa using hs
      go_enter Tryz.func27, Tryz.ntmps27
      go_wp2_with fail
      refine ho.mono ?_
      rintro e w1 ⟨rfl, rfl⟩
      go_wp2_with fail
      go_ret
      exact ⟨rfl, rfl⟩
  · go_enter Tryz.func27, Tryz.ntmps27
    go_wp2_with fail
    refine ho.mono ?_
    rintro e w1 ⟨rfl, rfl⟩
    go_wp2_with fail
    go_ret
    exact ⟨rfl, rfl⟩

theorem read_reads (w : World) (s : List UInt8) :
    Calls Tryz.prog 23 #[.string (S s)] w fun e w' => e = .returned (ptr w.heap.size) ∧ w' = w.alloc (.cells #[.string (S s), .bool false] 98) := by
  go_enter Tryz.func23, Tryz.ntmps23
  go_wp2_with fail
  go_ret
  exact ⟨rfl, rfl⟩
end

section
set_option linter.unusedVariables false
open Go.RowKit

theorem Grew.from_ {w CW w' : World} {v v' : Value} (h : Grew CW v w' v') (k : Keeps (fun _ => False) w CW) : Grew w v w' v' :=
  ⟨(k.mono (fun _ _ e => e.elim)).trans' h.keeps, fun g hg => (h.new g hg).imp id (fun e => Nat.le_trans k.size e)⟩
theorem off_new {w : World} {e : TypeId} {size : Nat} {v : Value} {n : Nat} {xs : List Value} (h : Row w e size v n xs) {g : Nat} (hg : w.heap.size ≤ g) : Off (fun k => v.ownBlock = some k) (some ⟨g, 0, none⟩) := by
  intro ad he hv
  cases he
  have := h.lt hv
  simp only at this
  omega

theorem heap_new {w : World} {o : Obj} {g : Nat} (hg : g = w.heap.size) : (w.alloc o).heap[g]? = some o := by subst hg; exact heap_alloc_new w o
theorem heap_old {w : World} {o o' : Obj} {g : Nat} (h : w.heap[g]? = some o') : (w.alloc o).heap[g]? = some o' := (Below.heap_alloc w o g (heap_lt h)).trans h

/-- a row of bytes, known whole -/
def RowB (w : World) (v : Value) (l : List UInt8) : Prop := Row w 5 1 v l.length (Bs l)
theorem RowB.of {w : World} {v : Value} {n : Nat} {l : List UInt8} (h : Row w 5 1 v n (Bs l)) : RowB w v l := by
  have := h.len
  simp only [Bs_length, Nat.mul_one] at this
  subst this
  exact h
theorem RowB.nil (w : World) : RowB w (.slice none 0 0) [] := Row.nil _ _ _
theorem RowB.kept {w w' : World} {v : Value} {l : List UInt8} {F : Nat → Prop} (h : RowB w v l) (hk : Keeps F w w') (hF : ∀ g, v.ownBlock = some g → ¬ F g) : RowB w' v l := Row.kept h hk hF
theorem RowB.lt {w : World} {v : Value} {l : List UInt8} (h : RowB w v l) {g : Nat} (hg : v.ownBlock = some g) : g < w.heap.size := Row.lt h hg
/-- its block is no block of another make -/
theorem RowB.ne_ {w : World} {v : Value} {l : List UInt8} (h : RowB w v l) {g : Nat} {o : Obj} (ho : w.heap[g]? = some o) (hne : ∀ cur, o ≠ .cells cur 5 (0, 0)) : v.ownBlock ≠ some g := Row.ne_ h ho hne
theorem RowB.form {w : World} {v : Value} {l : List UInt8} (h : RowB w v l) : ∃ A cap, v = .slice A l.length cap ∧ l.length ≤ cap ∧ cap ≤ maxLen ∧ Src w 1 A l.length (Bs l) := by
  obtain ⟨A, cap, h1, h2, h3, h4, _⟩ := Row.form h
  exact ⟨A, cap, h1, h2, h3, h4⟩

/-- what a writer leaves: from the base w, called in CW -/
structure Wrote (w CW : World) (v : Value) (w' : World) (v' : Value) (l : List UInt8) : Prop where
  row : RowB w' v' l
  grew : Grew w v w' v'
  keeps : Keeps (fun k => v.ownBlock = some k) CW w'

theorem num_new (w CW : World) (v : Value) (l : List UInt8) (hown : RowB w v l) (hk : Keeps (fun _ => False) w CW) (g : Nat) (hg : w.heap.size ≤ g) (ns : List Int) (m : Nat) (hm : ns.length = m)
    (hb : CW.heap[g]? = some (.cells (Is ns).toArray 3 (0, 0))) (hl : l.length ≤ 100000000) (hm2 : m ≤ 1000) :
    Calls Tryz.prog 55 #[v, .slice (some ⟨g, 0, none⟩) m m] CW fun e w' => ∃ v', e = .returned v' ∧ Wrote w CW v w' v' (l ++ nums ns) := by
  subst hm
  refine (num_any CW v _ l (Row.kept hown hk (fun _ _ h => h)) _ ns _ (Src.block hb 1 ns.length (by simp)) (off_new hown hg) (by omega)).mono ?_
  rintro e w' ⟨v', rfl, h1, h2⟩
  exact ⟨v', rfl, .of h1, h2.from_ hk, h2.keeps⟩
theorem text_new (w CW : World) (v : Value) (l : List UInt8) (hown : RowB w v l) (hk : Keeps (fun _ => False) w CW) (g : Nat) (hg : w.heap.size ≤ g) (ss : List (List UInt8)) (m : Nat) (hm : ss.length = m)
    (hb : CW.heap[g]? = some (.cells (Ss ss).toArray 9 (0, 0))) (hl : l.length ≤ 100000000) (hm2 : m ≤ 1000) :
    Calls Tryz.prog 57 #[v, .slice (some ⟨g, 0, none⟩) m m] CW fun e w' => ∃ v', e = .returned v' ∧ Wrote w CW v w' v' (l ++ txts ss) := by
  subst hm
  refine (text_any CW v _ l (Row.kept hown hk (fun _ _ h => h)) _ ss _ (Src.block hb 1 ss.length (by simp)) (off_new hown hg) (by omega)).mono ?_
  rintro e w' ⟨v', rfl, h1, h2⟩
  exact ⟨v', rfl, .of h1, h2.from_ hk, h2.keeps⟩
theorem flag_new (w CW : World) (v : Value) (l : List UInt8) (hown : RowB w v l) (hk : Keeps (fun _ => False) w CW) (g : Nat) (hg : w.heap.size ≤ g) (fs : List Bool) (m : Nat) (hm : fs.length = m)
    (hb : CW.heap[g]? = some (.cells (Fs fs).toArray 4 (0, 0))) (hl : l.length ≤ 100000000) (hm2 : m ≤ 1000) :
    Calls Tryz.prog 56 #[v, .slice (some ⟨g, 0, none⟩) m m] CW fun e w' => ∃ v', e = .returned v' ∧ Wrote w CW v w' v' (l ++ flags fs) := by
  subst hm
  refine (flag_any CW v _ l (Row.kept hown hk (fun _ _ h => h)) _ fs _ (Src.block hb 1 fs.length (by simp)) (off_new hown hg) (by omega)).mono ?_
  rintro e w' ⟨v', rfl, h1, h2⟩
  exact ⟨v', rfl, .of h1, h2.from_ hk, h2.keeps⟩

/-- the same, in the very world, wherever the list lies -/
theorem flag_at (w : World) (v : Value) (l : List UInt8) (hown : RowB w v l) (g : Nat) (fs : List Bool) (m : Nat) (hm : fs.length = m)
    (hb : w.heap[g]? = some (.cells (Fs fs).toArray 4 (0, 0))) (hl : l.length ≤ 100000000) (hm2 : m ≤ 1000) :
    Calls Tryz.prog 56 #[v, .slice (some ⟨g, 0, none⟩) m m] w fun e w' => ∃ v', e = .returned v' ∧ RowB w' v' (l ++ flags fs) ∧ Grew w v w' v' := by
  subst hm
  refine (flag_any w v _ l hown _ fs _ (Src.block hb 1 fs.length (by simp)) (fun ad he hv => ?_) (by omega)).mono ?_
  · cases he
    exact hown.ne_ hb (fun cur e => by injection e with _ e; exact absurd e (by decide)) hv
  · rintro e w' ⟨v', rfl, h1, h2⟩
    exact ⟨v', rfl, .of h1, h2⟩
end

section
set_option linter.unusedVariables false
open Go.RowKit

/-- bytes that are written on -/
def bytesA (v : Value) (l : List UInt8) : Asn := rowA 5 1 v l.length (Bs l)
section
variable {g w w' : World} {L : List Asn} {v v' : Value} {l : List UInt8}
theorem Sat.rowB (S : Sat g w (bytesA v l :: L)) : RowB w v l := Sat.row S
theorem Sat.bytesNil (S : Sat g w L) : Sat g w (bytesA (.slice none 0 0) [] :: L) := S.nilRow _ _
theorem Sat.bytesForm (S : Sat g w (bytesA v l :: L)) : ∃ A n cap, v = .slice A n cap ∧ Src w 1 A n (Bs l) := by
  obtain ⟨A, cap, h1, h2, h3, h4⟩ := S.rowB.form
  exact ⟨A, _, cap, h1, h4⟩
/-- a list that was made for a call lies apart from the bytes -/
theorem Sat.offList {b : Nat} {t : TypeId} {cs : Array Value} (S : Sat g w (cellsA b t cs :: bytesA v l :: L)) : Off (fun k => v.ownBlock = some k) (some ⟨b, 0, none⟩) := by
  intro ad he hv
  cases he
  obtain ⟨h, ⟨h1, h2, c1, rfl, ⟨o, ho, rfl⟩, ⟨h3, h4, c2, rfl, ⟨_, a⟩, _⟩⟩, m⟩ := S.mem
  rcases a with ⟨rfl, _, rfl⟩ | ⟨b', cap, cur, rfl, q1, q2, q3, q4, rfl⟩
  · simp [Value.ownBlock] at hv
  · injection hv with hv
    simp only at hv
    subst hv
    have := c1 b'
    simp [compat, hone, hjoin] at this
theorem s_num (ns : List Int) {m b : Nat} (S : Sat g w (cellsA b 3 (Is ns).toArray :: bytesA v l :: L)) (hm : ns.length = m) (hl : l.length ≤ 100000000) (hm2 : m ≤ 1000) :
    Calls Tryz.prog 55 #[v, .slice (some ⟨b, 0, none⟩) m m] w fun e w' => ∃ v', e = .returned v' ∧ Sat g w' (bytesA v' (l ++ nums ns) :: L) := by
  subst hm
  refine (num_any w v _ l S.drop.rowB _ ns _ (Src.block S.cells_get 1 ns.length (by simp)) S.offList (by omega)).mono ?_
  rintro e w' ⟨v', rfl, h1, h2⟩
  exact ⟨v', rfl, Sat.grew S.drop (RowB.of h1) h2⟩
theorem s_text (ss : List (List UInt8)) {m b : Nat} (S : Sat g w (cellsA b 9 (Ss ss).toArray :: bytesA v l :: L)) (hm : ss.length = m) (hl : l.length ≤ 100000000) (hm2 : m ≤ 1000) :
    Calls Tryz.prog 57 #[v, .slice (some ⟨b, 0, none⟩) m m] w fun e w' => ∃ v', e = .returned v' ∧ Sat g w' (bytesA v' (l ++ txts ss) :: L) := by
  subst hm
  refine (text_any w v _ l S.drop.rowB _ ss _ (Src.block S.cells_get 1 ss.length (by simp)) S.offList (by omega)).mono ?_
  rintro e w' ⟨v', rfl, h1, h2⟩
  exact ⟨v', rfl, Sat.grew S.drop (RowB.of h1) h2⟩
theorem s_flag (fs : List Bool) {m b : Nat} (S : Sat g w (cellsA b 4 (Fs fs).toArray :: bytesA v l :: L)) (hm : fs.length = m) (hl : l.length ≤ 100000000) (hm2 : m ≤ 1000) :
    Calls Tryz.prog 56 #[v, .slice (some ⟨b, 0, none⟩) m m] w fun e w' => ∃ v', e = .returned v' ∧ Sat g w' (bytesA v' (l ++ flags fs) :: L) := by
  subst hm
  refine (flag_any w v _ l S.drop.rowB _ fs _ (Src.block S.cells_get 1 fs.length (by simp)) S.offList (by omega)).mono ?_
  rintro e w' ⟨v', rfl, h1, h2⟩
  exact ⟨v', rfl, Sat.grew S.drop (RowB.of h1) h2⟩

/-! ### the reader -/
def rdA (r : Nat) (x : RS) : Asn := fun h => x.1.length ≤ 9223372036854775807 ∧ cellsA r 98 #[.string (S x.1), .bool x.2] h
variable {r : Nat} {x x' : RS}
theorem Sat.rd_le (S : Sat g w (rdA r x :: L)) : x.1.length ≤ 9223372036854775807 := by
  obtain ⟨h, ⟨h1, h2, c1, rfl, a, _⟩, m⟩ := S.mem
  exact a.1
theorem Sat.rd (S : Sat g w (rdA r x :: L)) : Rd w r x := Sat.cells_get (L := L) (S.head fun _ a => a.2)
theorem Sat.rdPut (S : Sat g w (rdA r x :: L)) (hk : Keeps (fun k => k = r) w w') (hr : Rd w' r x') (hx : x'.1.length ≤ x.1.length) : Sat g w' (rdA r x' :: L) :=
  have h1 := S.rd_le
  (Sat.own_put (Φ' := fun o => o = .cells #[.string (Go.Proofs.YtanlobdidjednaaGreatDoor.S x'.1), .bool x'.2] 98 (0, 0)) (S.head (A' := cellsA r _ _) fun _ a => a.2) hk hr rfl).head fun _ a => ⟨by omega, a⟩
theorem s_rnum (most : Int) (S : Sat g w (rdA r x :: L)) :
    Calls Tryz.prog 24 #[ptr r, .int .i64 most] w fun e w' => e = .returned (.int .i64 (rn x most).1) ∧ Sat g w' (rdA r (rn x most).2 :: L) := by
  refine (num_reads w r most x S.rd_le S.rd).mono ?_
  rintro e w' ⟨rfl, h1, h2⟩
  exact ⟨rfl, S.rdPut h2 h1 (rn_le _ _)⟩
theorem s_rtext (most : Int) (S : Sat g w (rdA r x :: L)) :
    Calls Tryz.prog 25 #[ptr r, .int .i64 most] w fun e w' => e = .returned (.string (Go.Proofs.YtanlobdidjednaaGreatDoor.S (rt x most).1)) ∧ Sat g w' (rdA r (rt x most).2 :: L) := by
  refine (text_reads w r most x S.rd_le S.rd).mono ?_
  rintro e w' ⟨rfl, h1, h2⟩
  exact ⟨rfl, S.rdPut h2 h1 (rt_le _ _)⟩
theorem s_rflag (S : Sat g w (rdA r x :: L)) :
    Calls Tryz.prog 26 #[ptr r] w fun e w' => e = .returned (.bool (rf x).1) ∧ Sat g w' (rdA r (rf x).2 :: L) := by
  refine (flag_reads w r x S.rd_le S.rd).mono ?_
  rintro e w' ⟨rfl, h1, h2⟩
  refine ⟨rfl, S.rdPut h2 h1 ?_⟩
  unfold rf
  split
  · exact tk_le x 1
  · split
    · simp [fl]
    · exact tk_le x 1
theorem s_rdone (S : Sat g w (rdA r x :: L)) :
    Calls Tryz.prog 27 #[ptr r] w fun e w' => e = .returned (.int .i64 (rdone x)) ∧ Sat g w' (rdA r x :: L) := by
  refine (done_reads w r x S.rd).mono ?_
  rintro e w' ⟨rfl, rfl⟩
  exact ⟨rfl, S⟩
theorem s_rok (S : Sat g w (rdA r x :: L)) :
    Calls Tryz.prog 48 #[ptr r] w fun e w' => e = .returned (.bool (!x.2)) ∧ Sat g w' (rdA r x :: L) := by
  refine (ok_reads w r x S.rd).mono ?_
  rintro e w' ⟨rfl, rfl⟩
  exact ⟨rfl, S⟩
theorem s_rfail (S : Sat g w (rdA r x :: L)) :
    Calls Tryz.prog 47 #[ptr r] w fun e w' => e = .returned (.tuple #[]) ∧ Sat g w' (rdA r fl :: L) := by
  refine (fail_any w r x S.rd).mono ?_
  rintro e w' ⟨rfl, h1, h2⟩
  exact ⟨rfl, S.rdPut h2 h1 (by simp [fl])⟩
theorem s_read (S : Sat g w L) (s : List UInt8) (hs : s.length ≤ 9223372036854775807) :
    Calls Tryz.prog 23 #[.string (Go.Proofs.YtanlobdidjednaaGreatDoor.S s)] w fun e w' => ∃ r, e = .returned (ptr r) ∧ Sat g w' (rdA r (s, false) :: L) := by
  refine (read_reads w s).mono ?_
  rintro e w' ⟨rfl, rfl⟩
  exact ⟨_, rfl, (S.box _ _ rfl).head fun _ a => ⟨hs, a⟩⟩
end
end

end Go.Proofs.YtanlobdidjednaaGreatDoor
