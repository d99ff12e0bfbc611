/- What a checksum that goes on is, whatever the texts are. No condition. -/
import Derived.Test.YtegafdkhbgojcaaGreatDoorEC
import Derived.Test.YtegafdkhbgojcaaGreatDoorChecked
set_option linter.unusedVariables false
set_option linter.unusedSimpArgs false
namespace Go.Proofs.YtegafdkhbgojcaaGreatDoor.Ek
section
open Go.RowKit
theorem xor_lt32 {a b : Nat} (ha : a ≤ 4294967295) (hb : b ≤ 4294967295) : Nat.xor a b ≤ 4294967295 := by
  have : a ^^^ b < 2 ^ 32 := Nat.xor_lt_two_pow (by omega) (by omega)
  show a ^^^ b ≤ 4294967295
  omega
theorem bits_xor32 {a b : Nat} (ha : a ≤ 4294967295) (hb : b ≤ 4294967295) : bits .xor .u32 (a : Int) (b : Int) = ((Nat.xor a b : Nat) : Int) := by
  have hmax : IntKind.max .u32 = 4294967295 := by decide
  have hmin : IntKind.min .u32 = 0 := by decide
  have hl := xor_lt32 ha hb
  have h1 := Ex.bits_nat .u32 (a := a) (by omega)
  have h2 := Ex.bits_nat .u32 (a := b) (by omega)
  show IntKind.u32.wrap ((BitVec.ofInt (IntKind.bits .u32) (a : Int) ^^^ BitVec.ofInt (IntKind.bits .u32) (b : Int)).toNat : Int) = _
  rw [BitVec.toNat_xor, h1, h2]
  exact Ex.wrap_in .u32 _ (by omega) (by show ((Nat.xor a b : Nat) : Int) ≤ _; omega)
theorem bits_and32 {a b : Nat} (ha : a ≤ 4294967295) (hb : b ≤ 4294967295) : bits .and .u32 (a : Int) (b : Int) = ((Nat.land a b : Nat) : Int) := by
  have hmax : IntKind.max .u32 = 4294967295 := by decide
  have hmin : IntKind.min .u32 = 0 := by decide
  have hl : Nat.land a b ≤ a := Nat.and_le_left
  have h1 := Ex.bits_nat .u32 (a := a) (by omega)
  have h2 := Ex.bits_nat .u32 (a := b) (by omega)
  show IntKind.u32.wrap ((BitVec.ofInt (IntKind.bits .u32) (a : Int) &&& BitVec.ofInt (IntKind.bits .u32) (b : Int)).toNat : Int) = _
  rw [BitVec.toNat_and, h1, h2]
  exact Ex.wrap_in .u32 _ (by omega) (by show ((Nat.land a b : Nat) : Int) ≤ _; omega)
theorem bits_not32 {a : Nat} (ha : a ≤ 4294967295) : bits .xor .u32 IntKind.u32.max (a : Int) = ((4294967295 - a : Nat) : Int) := by
  have hmax : IntKind.max .u32 = ((4294967295 : Nat) : Int) := by decide
  rw [hmax, bits_xor32 (by omega) ha]
  congr 1
  show 4294967295 ^^^ a = 4294967295 - a
  have e : 4294967295 - a = 2 ^ 32 - (a + 1) := by omega
  rw [e, show (4294967295 : Nat) = 2 ^ 32 - 1 from by decide]
  refine Nat.eq_of_testBit_eq fun i => ?_
  rw [Nat.testBit_xor, Nat.testBit_two_pow_sub_one, Nat.testBit_two_pow_sub_succ (by omega)]
  by_cases hi : i < 32
  · simp [hi]
  · have : a.testBit i = false := Nat.testBit_lt_two_pow (Nat.lt_of_lt_of_le (show a < 2 ^ 32 by omega) (Nat.pow_le_pow_right (by omega) (by omega)))
    simp [hi, this]
theorem crcS_odd {x : Nat} (h : x % 2 = 1) : Ex.crcS x = Nat.xor (x / 2) 2197175160 := by
  have h' : Nat.mod x 2 = 1 := h
  unfold Ex.crcS
  rw [h']
  rfl
theorem crcS_even {x : Nat} (h : x % 2 = 0) : Ex.crcS x = x / 2 := by
  have h' : Nat.mod x 2 = 0 := h
  unfold Ex.crcS
  rw [h']
  rfl
theorem crcS_le {x : Nat} (h : x ≤ 4294967295) : Ex.crcS x ≤ 4294967295 := by
  rcases Nat.mod_two_eq_zero_or_one x with e | e
  · rw [crcS_even e]; omega
  · rw [crcS_odd e]; exact xor_lt32 (by omega) (by omega)
noncomputable def crcN : Nat → Nat → Nat
  | 0, x => x
  | p + 1, x => Ex.crcS (crcN p x)
theorem crcN_le {x : Nat} (h : x ≤ 4294967295) : ∀ p, crcN p x ≤ 4294967295
  | 0 => h
  | p + 1 => crcS_le (crcN_le h p)
theorem crcN_8 (x : Nat) : crcN 8 x = Ex.crcB x := rfl
theorem crcT_le (t : List UInt8) : ∀ {x : Nat}, x ≤ 4294967295 → t.foldl (fun x c => Ex.crcB (Nat.xor x c.toNat)) x ≤ 4294967295 := by
  induction t with
  | nil => intro x h; exact h
  | cons c t ih =>
    intro x h
    refine ih ?_
    show Ex.crcB (Nat.xor x c.toNat) ≤ 4294967295
    rw [← crcN_8]
    have := c.toNat_lt
    exact crcN_le (xor_lt32 h (by omega)) 8
theorem crcF_le (ts : List (List UInt8)) : ∀ {x : Nat}, x ≤ 4294967295 → Ex.crcF ts x ≤ 4294967295 := by
  induction ts with
  | nil => intro x h; exact h
  | cons t ts ih => intro x h; exact ih (crcT_le t h)
theorem foldl_take {α β : Type} (f : β → α → β) (l : List α) (x : β) (k : Nat) (a : α) (h : l[k]? = some a) : (l.take (k + 1)).foldl f x = f ((l.take k).foldl f x) a := by
  obtain ⟨hk, rfl⟩ := List.getElem?_eq_some_iff.1 h
  rw [List.take_succ_eq_append_getElem hk, List.foldl_append]
  rfl
set_option maxRecDepth 100000 in
theorem add_sum (w : World) (s : Nat) (A : Option Addr) (ts : List (List UInt8)) (c : Nat) (hs : s ≤ 4294967295) (hl : ts.length ≤ 1000) (ht : ∀ t ∈ ts, t.length ≤ 1000000) (hsrc : Src w 1 A ts.length (ts.map fun t => .string (S t))) :
    Calls Tryz.prog 322 #[.int .u32 (s : Int), .slice A ts.length c] w fun e w' => e = .returned (.int .u32 ((4294967295 - Ex.crcF ts (4294967295 - s) : Nat) : Int)) ∧ Keeps (fun _ => False) w w' := by
  go_enter Tryz.func322, Tryz.ntmps322
  go_wp2_with fail
  go_loopw [5, 14] (fun x i wr => ∃ k : Nat, k ≤ ts.length ∧ i = .int .i64 k ∧ x = .int .u32 ((Ex.crcF (ts.take k) (4294967295 - s) : Nat) : Int) ∧ Keeps (fun _ => False) w wr) (fun _ i _ => ts.length - (intOf i).toNat)
  case atStart => exact ⟨0, by omega, rfl, by rw [bits_not32 hs]; rfl, Keeps.refl _ _⟩
  case round =>
    obtain ⟨k, hk, rfl, rfl, hkp⟩ := hrel
    by_cases hlt : k < ts.length
    · obtain ⟨ad, u, rfl, hu, hc⟩ := (hsrc.keep hkp (fun _ _ h => h)).at_ hlt
      simp only [List.getElem?_map, Option.map_eq_some_iff] at hu
      obtain ⟨t, hx, rfl⟩ := hu
      have htl := ht t (List.mem_of_getElem? hx)
      have HX : Hid (ts[k]? = some t) := hx
      clear hx
      obtain ⟨c, w2, hconv, hsrc2, hk2⟩ := run_toBytes (P := Tryz.prog) wr Tryz.underlying9 Tryz.underlying117 Tryz.underlying5 t
      have hX0 := crcF_le (ts.take k) (x := 4294967295 - s) (by omega)
      generalize hXe : Ex.crcF (ts.take k) (4294967295 - s) = X at hX0 ⊢
      go_wp2_with fail
      go_loopw [5, 21] (fun x j wi => ∃ q : Nat, q ≤ t.length ∧ j = .int .i64 q ∧ x = .int .u32 (((t.take q).foldl (fun x c => Ex.crcB (Nat.xor x c.toNat)) X : Nat) : Int) ∧ wi = w2) (fun _ j _ => t.length - (intOf j).toNat)
      case atStart => exact ⟨0, by omega, rfl, rfl, rfl⟩
      case round =>
        obtain ⟨q, hq, rfl, rfl, rfl⟩ := hrel
        by_cases hlt2 : q < t.length
        · obtain ⟨u, hu, hc2⟩ := hsrc2.at0 hlt2
          simp only [Bs, List.getElem?_map, Option.map_eq_some_iff] at hu
          obtain ⟨y, hy, rfl⟩ := hu
          have HY := hide hy
          clear hy
          unfold B at hc2
          have hy0 := y.toNat_lt
          have hY0 := crcT_le (t.take q) hX0
          generalize hYe : (t.take q).foldl (fun x c => Ex.crcB (Nat.xor x c.toNat)) X = Y at hY0 ⊢
          have hZ0 : Nat.xor Y y.toNat ≤ 4294967295 := xor_lt32 hY0 (by omega)
          have hxor := bits_xor32 hY0 (show y.toNat ≤ 4294967295 by omega)
          generalize hZe : Nat.xor Y y.toNat = Z at hZ0 hxor
          go_wp2_with fail
          go_loopw [5, 29] (fun x p wi => ∃ r : Nat, r ≤ 8 ∧ p = .int .i64 r ∧ x = .int .u32 ((crcN r Z : Nat) : Int) ∧ wi = wr) (fun _ p _ => 8 - (intOf p).toNat)
          case atStart => exact ⟨0, by omega, rfl, rfl, rfl⟩
          case round =>
            obtain ⟨r, hr, rfl, rfl, rfl⟩ := hrel
            by_cases hlt3 : r < 8
            · have hN := crcN_le hZ0 r
              generalize hVe : crcN r Z = V at hN ⊢
              have hand : bits .and .u32 (V : Int) 1 = ((V % 2 : Nat) : Int) := by
                have := bits_and32 hN (show 1 ≤ 4294967295 by omega)
                rw [show ((1 : Nat) : Int) = 1 from rfl] at this
                rw [this]
                congr 1
                exact Nat.and_one_is_mod V
              have hpol : bits .xor .u32 ((V : Int) / 2) 2197175160 = ((Nat.xor (V / 2) 2197175160 : Nat) : Int) := by
                have := bits_xor32 (a := V / 2) (b := 2197175160) (by omega) (by omega)
                exact this
              rcases Nat.mod_two_eq_zero_or_one V with e | e
              · rw [e] at hand
                have hand' : bits .and .u32 (V : Int) 1 = 0 := hand
                clear hand
                go_wp2_with fail
                go_round
                case rel =>
                  refine ⟨r + 1, by omega, by go_num, ?_, trivial⟩
                  show _ = Value.int .u32 ((Ex.crcS (crcN r Z) : Nat) : Int)
                  rw [hVe, crcS_even e]
                  rfl
                case measure => simp [intOf]; omega
              · rw [e] at hand
                have hand' : bits .and .u32 (V : Int) 1 = 1 := hand
                clear hand
                go_wp2_with fail
                go_round
                case rel =>
                  refine ⟨r + 1, by omega, by go_num, ?_, trivial⟩
                  show _ = Value.int .u32 ((Ex.crcS (crcN r Z) : Nat) : Int)
                  rw [hVe, crcS_odd e]
                  rfl
                case measure => simp [intOf]; omega
            · obtain rfl : r = 8 := by omega
              go_wp2_with fail
              go_round
              case rel =>
                refine ⟨q + 1, by omega, by go_num, ?_, trivial⟩
                rw [foldl_take _ _ _ _ _ HY.out, hYe]
                show _ = Value.int .u32 ((Ex.crcB (Nat.xor Y y.toNat) : Nat) : Int)
                rw [hZe, crcN_8]
              case measure => simp [intOf]; omega
        · obtain rfl : q = t.length := by omega
          rw [List.take_length]
          go_wp2_with fail
          go_round
          case rel => 
            refine ⟨k + 1, by omega, by go_num, ?_, hkp.trans' hk2⟩
            unfold Ex.crcF
            rw [foldl_take _ _ _ _ _ HX.out]
            have : Ex.crcF (ts.take k) (4294967295 - s) = X := hXe
            unfold Ex.crcF at this
            rw [this]
          case measure => simp [intOf]; omega
    · obtain rfl : k = ts.length := by omega
      rw [List.take_length]
      have hb := crcF_le ts (x := 4294967295 - s) (by omega)
      go_wp2_with fail
      go_ret
      exact ⟨congrArg Ending.returned (congrArg (Value.int IntKind.u32) (bits_not32 hb)), hkp⟩
end
end Go.Proofs.YtegafdkhbgojcaaGreatDoor.Ek
