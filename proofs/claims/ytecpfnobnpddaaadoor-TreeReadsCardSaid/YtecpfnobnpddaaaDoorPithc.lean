/- Contracts of the package pith, third part: a reader's numbers, texts and flags. No condition. -/
import Derived.Test.YtecpfnobnpddaaaDoorPithb
set_option linter.unusedVariables false
namespace Go.Proofs.YtecpfnobnpddaaaDoor
open Go.RowKit

/-- bytes as a number, the highest one first -/
def be (l : List UInt8) : Int := l.foldl (fun (x : Int) (c : UInt8) => x * 256 + (c.toNat : Int)) 0
theorem be_snoc (l : List UInt8) (c : UInt8) : be (l ++ [c]) = be l * 256 + c.toNat := by simp [be]
theorem be_from (l : List UInt8) : ∀ x : Int, 0 ≤ x → 0 ≤ l.foldl (fun (x : Int) (c : UInt8) => x * 256 + (c.toNat : Int)) x ∧ l.foldl (fun (x : Int) (c : UInt8) => x * 256 + (c.toNat : Int)) x < (x + 1) * 256 ^ l.length := by
  induction l with
  | nil => intro x h; simp; omega
  | cons c l ih =>
    intro x h
    have hc := c.toNat_lt
    obtain ⟨h1, h2⟩ := ih (x * 256 + c.toNat) (by omega)
    refine ⟨h1, Int.lt_of_lt_of_le h2 ?_⟩
    rw [List.length_cons, Int.pow_succ, Int.mul_comm (256 ^ l.length) 256, ← Int.mul_assoc]
    exact Int.mul_le_mul_of_nonneg_right (by omega) (Int.le_of_lt (Int.pow_pos (by decide)))
theorem be_nonneg (l : List UInt8) : 0 ≤ be l := (be_from l 0 (Int.le_refl _)).1
theorem be_lt (l : List UInt8) : be l < 256 ^ l.length := by have := (be_from l 0 (Int.le_refl _)).2; simpa [be] using this
theorem be_lt5 (l : List UInt8) (h : l.length ≤ 5) : be l < 1099511627776 := by
  have h1 := be_lt l
  have h2 : l.length = 0 ∨ l.length = 1 ∨ l.length = 2 ∨ l.length = 3 ∨ l.length = 4 ∨ l.length = 5 := by omega
  rcases h2 with h | h | h | h | h | h <;> rw [h] at h1 <;> omega
theorem be_take (l : List UInt8) (k : Nat) (c : UInt8) (h : l[k]? = some c) : be (l.take (k + 1)) = be (l.take k) * 256 + c.toNat := by
  obtain ⟨hk, rfl⟩ := List.getElem?_eq_some_iff.1 h
  rw [List.take_succ_eq_append_getElem hk, be_snoc]
def rn (x : RS) (most : Int) : Int × RS := if max most 0 < be (tk x 6).1 then (0, fl) else (be (tk x 6).1, (tk x 6).2)

theorem or_byte_nat (a c : Nat) (hc : c < 256) (ha : a < 36028797018963967) : bits .or .i64 ((a : Int) * 256) (c : Int) = (a : Int) * 256 + c := by
  have e : ((a : Int) * 256) = ((256 * a : Nat) : Int) := by omega
  rw [e]
  have h1 : (BitVec.ofInt 64 ((256 * a : Nat) : Int)).toNat = 256 * a := by
    rw [BitVec.ofInt_natCast, BitVec.toNat_ofNat]; exact Nat.mod_eq_of_lt (by omega)
  have h2 : (BitVec.ofInt 64 (c : Int)).toNat = c := by
    rw [BitVec.ofInt_natCast, BitVec.toNat_ofNat]; exact Nat.mod_eq_of_lt (by omega)
  have h3 : 256 * a + c = 256 * a ||| c := Nat.two_pow_add_eq_or_of_lt (i := 8) hc a
  show IntKind.i64.wrap ((BitVec.ofInt 64 ((256 * a : Nat) : Int) ||| BitVec.ofInt 64 (c : Int)).toNat : Int) = _
  rw [BitVec.toNat_or, h1, h2, ← h3, IntWalk.i64_in _ ⟨by omega, by omega⟩]
  omega
theorem or_byte (x : Int) (c : UInt8) (h : 0 ≤ x) (h2 : x < 1099511627776) : bits .or .i64 (x * 256) (c.toNat : Int) = x * 256 + c.toNat := by
  obtain ⟨a, rfl⟩ := Int.eq_ofNat_of_zero_le h
  exact or_byte_nat a c.toNat c.toNat_lt (by omega)

set_option maxRecDepth 100000 in
theorem num_reads (w : World) (r : Nat) (most : Int) (x : RS) (hs : x.1.length ≤ 9223372036854775807) (h : Rd w r x) :
    Calls Tryd.prog 45 #[ptr r, .int .i64 most] w fun e w' => e = .returned (.int .i64 (rn x most).1) ∧ Rd w' r (rn x most).2 ∧ Keeps (fun k => k = r) w w' := by
  have ht := take_any w r 6 x (by omega) hs h
  have hlen := tk_len x 6
  have h6 : (Int.toNat 6) = 6 := rfl
  rw [h6] at ht
  unfold rn
  generalize tk x 6 = T at *
  obtain ⟨t, x1⟩ := T
  simp only at ht hlen ⊢
  have hl6 : t.length ≤ 6 := by rcases hlen with h | h <;> simp [h]
  have HH := hide h
  clear h h6 hlen hs
  generalize hR : (if max most 0 < be t then (0, fl) else (be t, x1)) = R
  have HR := hide hR
  clear hR
  go_enter Tryd.func45, Tryd.ntmps45
  go_wp2_with fail
  refine ht.mono ?_
  rintro e w1 ⟨rfl, hr1, hk1⟩
  obtain ⟨c, w2, hconv, hsrc, hk2⟩ := run_toBytes (P := Tryd.prog) w1 Tryd.underlying9 Tryd.underlying42 Tryd.underlying5 t
  have hr2 := hr1.kept hk2 (fun h => h)
  have hk3 := hk1.trans hk2 (fun _ _ h => h.elim)
  clear ht hr1 hk1 hk2
  go_wp2_with fail
  clear hconv
  go_loop [5, 12] (fun s i => ∃ k : Nat, k ≤ t.length ∧ i = .int .i64 k ∧ s = .int .i64 (be (t.take k))) (fun _ i => t.length - (intOf i).toNat)
  case atStart => exact ⟨0, by omega, rfl, rfl⟩
  case round =>
    obtain ⟨k, hk, rfl, rfl⟩ := hrel
    by_cases hlt : k < t.length
    · obtain ⟨u, hu, hc⟩ := hsrc.at0 hlt
      simp only [Bs, List.getElem?_map, Option.map_eq_some_iff] at hu
      obtain ⟨b, hb, rfl⟩ := hu
      have hb0 := be_nonneg (t.take k)
      have hb1 := be_lt5 (t.take k) (by simp; omega)
      have hb2 := b.toNat_lt
      have HB := hide hb
      clear hb
      unfold B at hc
      go_wp2_with fail
      go_round
      case rel =>
        refine ⟨k + 1, by omega, by go_num, ?_⟩
        rw [be_take t k b HB.out, or_byte _ _ hb0 hb1]
      case measure => simp [intOf]; omega
    · obtain rfl : k = t.length := by omega
      rw [List.take_length]
      have hbe := be_nonneg t
      go_wp2_with fail
      all_goals first
        | (refine (fail_any _ r x1 hr2).mono ?_
           rintro e w3 ⟨rfl, hr3, hk4⟩
           go_wp2_with fail
           go_ret
           have e1 : R = (0, fl) := by rw [← HR.out, if_pos (by omega)]
           subst e1
           exact ⟨rfl, hr3, hk3.trans' hk4⟩)
        | (go_ret
           have e1 : R = (be t, x1) := by rw [← HR.out, if_neg (by omega)]
           subst e1
           exact ⟨rfl, hr2, hk3⟩)
theorem rn_lo (x : RS) (most : Int) : 0 ≤ (rn x most).1 := by
  unfold rn
  split
  · exact Int.le_refl _
  · exact be_nonneg _
theorem rn_hi (x : RS) (most : Int) (h : 0 ≤ most) : (rn x most).1 ≤ most := by
  unfold rn
  split
  · exact h
  · show be _ ≤ most
    omega
theorem rn_le (x : RS) (most : Int) : (rn x most).2.1.length ≤ x.1.length := by
  unfold rn
  split
  · simp [fl]
  · exact tk_le x 6

/-! ### texts -/
def rt (x : RS) (most : Int) : List UInt8 × RS :=
  if (tk x 2).1 = [] then ([], (tk x 2).2) else tk (if most < be (tk x 2).1 then fl else (tk x 2).2) (be (tk x 2).1).toNat

theorem be_two (a b : UInt8) : be [a, b] = (a.toNat : Int) * 256 + b.toNat := by simp [be]

set_option maxRecDepth 100000 in
theorem text_reads (w : World) (r : Nat) (most : Int) (x : RS) (hs : x.1.length ≤ 9223372036854775807) (h : Rd w r x) :
    Calls Tryd.prog 46 #[ptr r, .int .i64 most] w fun e w' => e = .returned (.string (S (rt x most).1)) ∧ Rd w' r (rt x most).2 ∧ Keeps (fun k => k = r) w w' := by
  have ht := take_any w r 2 x (by omega) hs h
  have hlen := tk_len x 2
  have hle := tk_le x 2
  have h6 : (Int.toNat 2) = 2 := rfl
  rw [h6] at ht
  unfold rt
  generalize tk x 2 = T at *
  obtain ⟨t, x1⟩ := T
  simp only at ht hlen hle ⊢
  rcases hlen with hl2 | hnil
  · obtain ⟨a, b, rfl⟩ : ∃ a b, t = [a, b] := by
      match t, hl2 with
      | [a, b], _ => exact ⟨a, b, rfl⟩
    have ha := a.toNat_lt
    have hb := b.toNat_lt
    simp only [be_two]
    rw [if_neg (by simp)]
    have HH := hide h
    clear h h6 hl2
    generalize hR : tk (if most < (a.toNat : Int) * 256 + b.toNat then fl else x1) ((a.toNat : Int) * 256 + b.toNat).toNat = R
    have HR := hide hR
    clear hR
    have hor := or_byte a.toNat b (by omega) (by omega)
    have hz : (2 : Nat) = [a, b].length := rfl
    have hkk : 0 ≤ (a.toNat : Int) * 256 + b.toNat := by omega
    by_cases hm : most < (a.toNat : Int) * 256 + b.toNat
    · go_enter Tryd.func46, Tryd.ntmps46
      go_wp2_with fail
      refine ht.mono ?_
      rintro e w1 ⟨rfl, hr1, hk1⟩
      go_wp2_with fail
      go_quiet (fail)
      go_wp2_with fail
      refine (fail_any _ r x1 (hr1.drewN _)).mono ?_
      rintro e w2 ⟨rfl, hr2, hk2⟩
      go_wp2_with fail
      refine (take_any _ r _ fl hkk (by simp [fl]) hr2).mono ?_
      rintro e w3 ⟨rfl, hr3, hk3⟩
      go_wp2_with fail
      go_ret
      have e1 : R = tk fl ((a.toNat : Int) * 256 + b.toNat).toNat := by rw [← HR.out, if_pos hm]
      subst e1
      exact ⟨rfl, hr3, (hk1.drewN _).trans' (hk2.trans' hk3)⟩
    · go_enter Tryd.func46, Tryd.ntmps46
      go_wp2_with fail
      refine ht.mono ?_
      rintro e w1 ⟨rfl, hr1, hk1⟩
      go_wp2_with fail
      go_quiet (fail)
      go_wp2_with fail
      refine (take_any _ r _ x1 hkk (by omega) (hr1.drewN _)).mono ?_
      rintro e w3 ⟨rfl, hr3, hk3⟩
      go_wp2_with fail
      go_ret
      have e1 : R = tk x1 ((a.toNat : Int) * 256 + b.toNat).toNat := by rw [← HR.out, if_neg (by omega)]
      subst e1
      exact ⟨rfl, hr3, (hk1.drewN _).trans' hk3⟩
  · subst hnil
    go_enter Tryd.func46, Tryd.ntmps46
    go_wp2_with fail
    refine ht.mono ?_
    rintro e w1 ⟨rfl, hr1, hk1⟩
    go_wp2_with fail
    go_ret
    exact ⟨rfl, hr1, hk1⟩

theorem rt_le (x : RS) (most : Int) : (rt x most).2.1.length ≤ x.1.length := by
  unfold rt
  split
  · exact tk_le x 2
  · refine Nat.le_trans (tk_le _ _) ?_
    split
    · simp [fl]
    · exact tk_le x 2
/-- a text is no longer than asked -/
theorem rt_len (x : RS) (most : Int) (h : 0 ≤ most) : ((rt x most).1.length : Int) ≤ most := by
  unfold rt
  split
  · exact h
  · rename_i hne
    have hb := be_nonneg (tk x 2).1
    split
    · simp [tk, fl]; exact h
    · rcases tk_len (tk x 2).2 (be (tk x 2).1).toNat with h1 | h1 <;> rw [h1]
      · omega
      · exact h

/-! ### flags, and whether there was an error -/
def rf (x : RS) : Bool × RS :=
  match (tk x 1).1 with
  | [] => (false, (tk x 1).2)
  | c :: _ => if 1 < c.toNat then (false, fl) else (c == 1, (tk x 1).2)

theorem flag_reads (w : World) (r : Nat) (x : RS) (hs : x.1.length ≤ 9223372036854775807) (h : Rd w r x) :
    Calls Tryd.prog 47 #[ptr r] w fun e w' => e = .returned (.bool (rf x).1) ∧ Rd w' r (rf x).2 ∧ Keeps (fun k => k = r) w w' := by
  have ht := take_any w r 1 x (by omega) hs h
  have hlen := tk_len x 1
  have h6 : (Int.toNat 1) = 1 := rfl
  rw [h6] at ht
  unfold rf
  generalize tk x 1 = T at *
  obtain ⟨t, x1⟩ := T
  simp only at ht hlen ⊢
  rcases hlen with hl2 | hnil
  · obtain ⟨a, rfl⟩ : ∃ a, t = [a] := by
      match t, hl2 with
      | [a], _ => exact ⟨a, rfl⟩
    have ha := a.toNat_lt
    simp only
    have HH := hide h
    clear h h6 hl2
    by_cases hm : 1 < a.toNat
    · rw [if_pos hm]
      have hm2 : (1 : Int) < (a.toNat : Int) := by omega
      go_enter Tryd.func47, Tryd.ntmps47
      go_wp2_with fail
      refine ht.mono ?_
      rintro e w1 ⟨rfl, hr1, hk1⟩
      go_wp2_with fail
      refine (fail_any _ r x1 hr1).mono ?_
      rintro e w2 ⟨rfl, hr2, hk2⟩
      go_wp2_with fail
      go_ret
      exact ⟨rfl, hr2, hk1.trans' hk2⟩
    · rw [if_neg hm]
      go_enter Tryd.func47, Tryd.ntmps47
      go_wp2_with fail
      refine ht.mono ?_
      rintro e w1 ⟨rfl, hr1, hk1⟩
      go_wp2_with fail
      go_ret
      exact ⟨rfl, hr1, hk1⟩
  · subst hnil
    go_enter Tryd.func47, Tryd.ntmps47
    go_wp2_with fail
    refine ht.mono ?_
    rintro e w1 ⟨rfl, hr1, hk1⟩
    go_wp2_with fail
    go_ret
    exact ⟨rfl, hr1, hk1⟩

def rdone (x : RS) : Int := if x.2 = true ∨ x.1 ≠ [] then 2 else 0

theorem ok_reads (w : World) (r : Nat) (x : RS) (h : Rd w r x) :
    Calls Tryd.prog 19 #[ptr r] w fun e w' => e = .returned (.bool (!x.2)) ∧ w = w' := by
  have c1 := h.c1
  obtain ⟨s, bad⟩ := x
  simp only at c1 ⊢
  clear h
  go_enter Tryd.func19, Tryd.ntmps19
  go_wp2_with fail
  go_ret
  exact ⟨rfl, rfl⟩

theorem done_reads (w : World) (r : Nat) (x : RS) (h : Rd w r x) :
    Calls Tryd.prog 21 #[ptr r] w fun e w' => e = .returned (.int .i64 (rdone x)) ∧ w = w' := by
  have c0 := h.c0
  have ho := ok_reads w r x h
  obtain ⟨s, bad⟩ := x
  simp only at c0 ho ⊢
  clear h
  cases bad
  · by_cases hs : s = []
    · subst hs
      go_enter Tryd.func21, Tryd.ntmps21
      go_wp2_with fail
      refine ho.mono ?_
      rintro e w1 ⟨rfl, rfl⟩
      go_wp2_with fail
      go_ret
      exact ⟨rfl, rfl⟩
    · have e : rdone (s, false) = 2 := by simp [rdone, hs]
      rw [e]
      have hs2 : s.isEmpty = false := by simpa using hs
      go_enter Tryd.func21, Tryd.ntmps21
      go_wp2_with fail
      refine ho.mono ?_
      rintro e w1 ⟨rfl, rfl⟩
      go_wp2_with fail
      go_ret
      exact ⟨rfl, rfl⟩
  · go_enter Tryd.func21, Tryd.ntmps21
    go_wp2_with fail
    refine ho.mono ?_
    rintro e w1 ⟨rfl, rfl⟩
    go_wp2_with fail
    go_ret
    exact ⟨rfl, rfl⟩

theorem read_reads (w : World) (s : List UInt8) :
    Calls Tryd.prog 17 #[.string (S s)] w fun e w' => e = .returned (ptr w.heap.size) ∧ w' = w.alloc (.cells #[.string (S s), .bool false] 87) := by
  go_enter Tryd.func17, Tryd.ntmps17
  go_wp2_with fail
  go_ret
  exact ⟨rfl, rfl⟩

end Go.Proofs.YtecpfnobnpddaaaDoor
