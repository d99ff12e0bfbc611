/- Contracts of the package pith, second part: flags; a reader. No condition. -/
import Derived.Test.YtecpfnobnpddaaaDoorPith
set_option linter.unusedVariables false
namespace Go.Proofs.YtecpfnobnpddaaaDoor
open Go.RowKit

/-- flags as cells -/
def Fs (l : List Bool) : List Value := l.map Value.bool
@[simp] theorem Fs_length (l : List Bool) : (Fs l).length = l.length := by simp [Fs]
def fb (b : Bool) : UInt8 := if b then 1 else 0
def flags (l : List Bool) : List UInt8 := l.map fb
theorem flags_take (l : List Bool) (k : Nat) (x : Bool) (h : l[k]? = some x) : flags (l.take (k + 1)) = flags (l.take k) ++ [fb x] := by
  obtain ⟨hk, rfl⟩ := List.getElem?_eq_some_iff.1 h
  rw [List.take_succ_eq_append_getElem hk, flags, List.map_append]
  rfl

set_option maxRecDepth 100000 in
theorem flag_any (w : World) (v : Value) (n : Nat) (l : List UInt8) (hown : Row w 5 1 v n (Bs l)) (A : Option Addr) (fs : List Bool) (c : Nat) (hsrc : Src w 1 A fs.length (Fs fs)) (hA : Off (fun k => v.ownBlock = some k) A)
    (hn : n + fs.length ≤ 1000000000) :
    Calls Tryd.prog 53 #[v, .slice A fs.length c] w fun e w' => ∃ v', e = .returned v' ∧ Row w' 5 1 v' (n + fs.length) (Bs (l ++ flags fs)) ∧ Grew w v w' v' := by
  go_enter Tryd.func53, Tryd.ntmps53
  go_wp2_with fail
  go_loopw [0, 10] (fun b i wr => ∃ k : Nat, k ≤ fs.length ∧ i = .int .i64 k ∧ ∃ v', b = v' ∧ Row wr 5 1 v' (n + k) (Bs (l ++ flags (fs.take k))) ∧ Grew w v wr v') (fun _ i _ => fs.length - (intOf i).toNat)
  case atStart => exact ⟨0, by omega, rfl, v, rfl, by simpa [flags] using hown, Grew.refl _ _⟩
  case round =>
    obtain ⟨k, hk, rfl, v', rfl, hown', hg'⟩ := hrel
    by_cases hlt : k < fs.length
    · obtain ⟨ad, u, rfl, hu, hc⟩ := (hsrc.keep hg'.keeps hA).at_ hlt
      simp only [Fs, List.getElem?_map, Option.map_eq_some_iff] at hu
      obtain ⟨x, hx, rfl⟩ := hu
      have HX : Hid (fs[k]? = some x) := hx
      clear hx
      cases x
      all_goals
        go_wp2_with (at_builtin; refine wpList_app slB rfl (.tmp 15) (.tmp 17) rfl (hown'.alloc _) rfl (Src.block (heap_alloc_new _ _) 1 1 rfl) rfl (by simp [Value.oneCell']) (by unfold maxLen; omega) (by omega) ?_; intro v3 w3 hown3 hg3)
        go_roundw
        case rel =>
          refine ⟨k + 1, by omega, by go_num, v3, rfl, ?_, (hg'.alloc _).trans hg3⟩
          rw [flags_take fs k _ HX.out, ← List.append_assoc, Bs_append]
          exact hown3
        case measure => simp [intOf]; omega
    · obtain rfl : k = fs.length := by omega
      rw [List.take_length] at hown'
      go_wp2_with fail
      go_ret
      exact ⟨_, rfl, hown', hg'⟩

/-! ### the reader -/
/-- what is left of its bytes; whether there was an error -/
abbrev RS := List UInt8 × Bool
def Rd (w : World) (r : Nat) (x : RS) : Prop := w.heap[r]? = some (.cells #[.string (S x.1), .bool x.2] 87 (0, 0))
/-- a pointer to block r -/
abbrev ptr (r : Nat) : Value := .pointer (some ⟨r, 0, none⟩)

theorem Rd.c0 {w r x} (h : Rd w r x) : w.cell? ⟨r, 0, none⟩ = some (.string (S x.1)) := by
  unfold Rd at h; simp [World.cell?, h]
theorem Rd.c1 {w r x} (h : Rd w r x) : w.cell? ⟨r, 1, none⟩ = some (.bool x.2) := by
  unfold Rd at h; simp [World.cell?, h]
theorem Rd.fz {w r x} (h : Rd w r x) (i : Nat) : w.frozen? ⟨r, i, none⟩ = false := by
  unfold Rd at h; simp [World.frozen?, h]
theorem Rd.lt {w r x} (h : Rd w r x) : r < w.heap.size := heap_lt h
theorem Rd.kept {w w' r x} {F : Nat → Prop} (h : Rd w r x) (hk : Keeps F w w') (hF : ¬ F r) : Rd w' r x := hk.heap h hF
theorem Rd.drewN {w r x} (h : Rd w r x) (n : Nat) : Rd (w.drewN n) r x := h
theorem Rd.set0 {w r x} (h : Rd w r x) (s : List UInt8) : Rd (w.setCell ⟨r, 0, none⟩ (.string (S s))) r (s, x.2) := by
  unfold Rd at h ⊢; simp [World.setCell, Array.getElem?_modify, h]
theorem Rd.set1 {w r x} (h : Rd w r x) (b : Bool) : Rd (w.setCell ⟨r, 1, none⟩ (.bool b)) r (x.1, b) := by
  unfold Rd at h ⊢; simp [World.setCell, Array.getElem?_modify, h]

def fl : RS := ([], true)
def tk (x : RS) (n : Nat) : List UInt8 × RS := if x.2 = true ∨ x.1.length < n then ([], fl) else (x.1.take n, (x.1.drop n, false))

theorem fail_any (w : World) (r : Nat) (x : RS) (h : Rd w r x) :
    Calls Tryd.prog 49 #[ptr r] w fun e w' => e = .returned (.tuple #[]) ∧ Rd w' r fl ∧ Keeps (fun k => k = r) w w' := by
  have c0 := h.c0
  have c1 := h.c1
  have f0 := h.fz 0
  have f1 := h.fz 1
  have hfin := (h.set0 []).set1 true
  have hk := ((Keeps.refl (fun k => k = r) w).setCell (p := ⟨r, 0, none⟩) (fun _ => rfl) (.string (S []))).setCell (p := ⟨r, 1, none⟩) (fun _ => rfl) (.bool true)
  clear h
  go_enter Tryd.func49, Tryd.ntmps49
  go_wp2
  go_end0
  exact ⟨rfl, hfin, hk⟩

theorem tk_len (x : RS) (n : Nat) : (tk x n).1.length = n ∨ (tk x n).1 = [] := by
  unfold tk
  split
  · exact .inr rfl
  · left; simp; omega
theorem tk_le (x : RS) (n : Nat) : (tk x n).2.1.length ≤ x.1.length := by
  unfold tk
  split <;> simp [fl]

theorem take_any (w : World) (r : Nat) (n : Int) (x : RS) (hn : 0 ≤ n) (hs : x.1.length ≤ 9223372036854775807) (h : Rd w r x) :
    Calls Tryd.prog 81 #[ptr r, .int .i64 n] w fun e w' => e = .returned (.string (S (tk x n.toNat).1)) ∧ Rd w' r (tk x n.toNat).2 ∧ Keeps (fun k => k = r) w w' := by
  obtain ⟨n, rfl⟩ := Int.eq_ofNat_of_zero_le hn
  obtain ⟨s, bad⟩ := x
  rw [Int.toNat_natCast]
  have c0 := h.c0
  have c1 := h.c1
  have hf := fail_any w r _ h
  simp only at c0 c1 hs
  by_cases hb : bad = true
  · subst hb
    have e : tk (s, true) n = ([], fl) := by simp [tk]
    rw [e]
    clear h e
    go_enter Tryd.func81, Tryd.ntmps81
    go_wp2_with fail
    refine hf.mono ?_
    rintro e w' ⟨rfl, hq⟩
    go_wp2_with fail
    go_ret
    exact ⟨rfl, hq⟩
  · obtain rfl : bad = false := by simpa using hb
    by_cases hl : s.length < n
    · have e : tk (s, false) n = ([], fl) := by simp [tk, hl]
      rw [e]
      clear h e
      go_enter Tryd.func81, Tryd.ntmps81
      go_wp2_with fail
      refine hf.mono ?_
      rintro e w' ⟨rfl, hq⟩
      go_wp2_with fail
      go_ret
      exact ⟨rfl, hq⟩
    · have e : tk (s, false) n = (s.take n, (s.drop n, false)) := by simp [tk, hl]
      have f0 := h.fz 0
      have h2 := hide (h.set0 (s.drop n))
      have e1 : (S s).extract 0 n = S (s.take n) := by rw [S_extract]; rfl
      have e2 : (S s).extract n s.length = S (s.drop n) := by rw [S_extract, List.take_length]
      rw [e]
      clear h e hf
      go_enter Tryd.func81, Tryd.ntmps81
      go_wp2_with fail
      go_ret
      exact ⟨rfl, h2.out, (Keeps.refl (fun k => k = r) w).setCell (p := ⟨r, 0, none⟩) (fun _ => rfl) _⟩

end Go.Proofs.YtecpfnobnpddaaaDoor
