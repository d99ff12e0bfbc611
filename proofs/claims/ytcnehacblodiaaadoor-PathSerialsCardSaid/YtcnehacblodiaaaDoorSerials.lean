/- The law PathSerials, walked. No condition. -/
import Derived.Test.YtcnehacblodiaaaDoorDigits
import Derived.Test.YtcnehacblodiaaaDoorMade
import Derived.Test.YtcnehacblodiaaaDoorRows
set_option linter.unusedVariables false
namespace Go.Proofs.YtcnehacblodiaaaDoor
open Go.RowKit

/-- the library's table, by the name that the statement gives -/
abbrev Tab10 (w : World) : Prop := Lib.TabIs Tryd.prog w (Rows.pathSerialsRow.named.headD default) .u64 Lib.pow10Tab
theorem Tab10.keep {w w' : World} {F : Nat → Prop} (h : Tab10 w) (hk : Keeps F w w') (hF : ∀ g, Tryd.prog.globalNamed (Rows.pathSerialsRow.named.headD default) = some g → ¬ F g) : Tab10 w' := by
  have h1 : w.var? Tryd.prog (Rows.pathSerialsRow.named.headD default) = some _ := h
  show w'.var? Tryd.prog (Rows.pathSerialsRow.named.headD default) = some _
  rw [← h1]
  unfold World.var? at h1 ⊢
  cases hg : Tryd.prog.globalNamed (Rows.pathSerialsRow.named.headD default) with
  | none => rfl
  | some g =>
    rw [hg] at h1
    simp only [Option.bind_some] at h1 ⊢
    cases hb : w.heap[g]? with
    | none => rw [hb] at h1; cases h1
    | some o => rw [hk.heap hb (hF g hg)]
theorem keeps_grow (w : World) (k : Nat) (os : Array Obj) : Keeps (fun _ => False) w (Sort.grow (w.drewN k) os) :=
  ⟨rfl, rfl, rfl, by simp [Sort.grow], fun i hi _ => by
    have h1 : i < (w.drewN k).heap.size := by simpa using hi
    simp only [Sort.grow, Array.getElem?_append, if_pos h1]
    simp⟩
theorem keeps_bytes (w : World) (e : TypeId) (s : ByteArray) : Keeps (fun _ => False) w (Lib.bytesWorld w e s) :=
  ⟨rfl, rfl, rfl, by rw [Lib.bytesWorld_size]; omega, fun i hi _ => Lib.bytesWorld_at_old w e s i hi⟩
theorem itoa_any (w : World) (n : Nat) (hn : n < 1073741824) (htab : Tab10 w) :
    Calls Tryd.prog 59 #[.int .i64 n] w fun e w' => e = .returned (.string (S (Lib.decDigits n))) ∧ Keeps (fun _ => False) w w' := by
  refine (Any.strconv_Itoa Tryd.laysM171 n (by omega) (by omega) w htab).mono ?_
  rintro e w' ⟨rfl, k, os, rfl⟩
  rw [Lib.itoa_nonneg]
  exact ⟨rfl, keeps_grow _ _ _⟩
theorem atoi_lib (w : World) (u : Nat) (hu : u < 10 ^ 10) :
    Calls Tryd.prog 28 #[.string (S (fixD 10 u))] w fun e w' => e = .returned (.tuple #[.int .i64 u, .nilIface]) ∧ Keeps (fun _ => False) w w' := by
  refine (Tryd.strconv_Atoi (S (fixD 10 u)) u (by rw [S_size, fixD_length]; decide) (by rw [S_toList]; exact fixD_atoi u hu) w).mono ?_
  rintro e w' ⟨rfl, t, rfl⟩
  exact ⟨rfl, keeps_bytes _ _ _⟩

set_option maxRecDepth 100000 in
theorem serial_any (w : World) (s : List UInt8) (n : Int) (hn : n < 1073741824) (hs : s.length ≤ 140737488355000) (htab : Tab10 w) :
    Calls Tryd.prog 27 #[.string (S s), .int .i64 n] w fun e w' => e = .returned (.string (S (s ++ fixD 10 (max n 0).toNat))) ∧ Keeps (fun _ => False) w w' := by
  obtain ⟨u, hu⟩ : ∃ u : Nat, max n 0 = (u : Int) := ⟨(max n 0).toNat, by omega⟩
  have hu2 : u < 1073741824 := by omega
  have hi := itoa_any w u hu2 htab
  obtain ⟨p1, p2⟩ := pad_fix 10 u (by decide) (Nat.lt_of_lt_of_le hu2 (by decide))
  have e1 : (max n 0).toNat = u := by omega
  rw [e1]
  rw [← p2]
  generalize Lib.decDigits u = d at *
  have hr := fun w => repeat_lib w [48] (10 - d.length) (by omega) (by simp)
  have hlen := Lib.repeatL_length [48] (10 - d.length)
  have hlen2 : (Lib.repeatL [48] (10 - d.length)).length ≤ 10 := by rw [hlen]; simp
  generalize Lib.repeatL [48] (10 - d.length) = z at *
  have hc : (((10 - d.length : Nat)) : Int) = max 0 (10 - (d.length : Int)) := by omega
  rw [hc] at hr
  have HR := hide hr
  have HI := hide hi
  clear hc hr hlen hi p2 e1
  go_enter Tryd.func27, Tryd.ntmps27
  go_wp2_with fail
  refine HI.out.mono ?_
  rintro e w1 ⟨rfl, hk1⟩
  have HK1 := hide hk1
  clear hk1
  go_wp2_with fail
  refine (HR.out _).mono ?_
  rintro e w2 ⟨rfl, hk⟩
  have HK := hide (HK1.out.trans' hk)
  clear hk
  have e2 : S s ++ S z ++ S d = S (s ++ (z ++ d)) := by rw [← List.append_assoc, ← S_append, ← S_append]
  have E2 := hide e2
  clear e2
  go_wp2_with fail
  go_ret
  exact ⟨by rw [← E2.out]; rfl, HK.out⟩

theorem less_app (s a b : List UInt8) : Op.bytesLess (s ++ a) (s ++ b) = Op.bytesLess a b := by
  induction s with
  | nil => rfl
  | cons x s ih => simp [Op.bytesLess, ih]
theorem less_snoc (l m : List UInt8) (x y : UInt8) (h : l.length = m.length) : Op.bytesLess (l ++ [x]) (m ++ [y]) = (Op.bytesLess l m || (decide (l = m) && decide (x < y))) := by
  induction l generalizing m with
  | nil =>
    cases m with
    | nil => simp [Op.bytesLess]
    | cons b m => simp at h
  | cons a l ih =>
    cases m with
    | nil => simp at h
    | cons b m =>
      have := ih m (by simpa using h)
      simp only [List.cons_append, Op.bytesLess, this]
      by_cases hab : a = b
      · subst hab; simp
      · have h2 : (a == b) = false := by simpa using hab
        simp [hab, h2]
theorem fixD_inj (k u v : Nat) (hu : u < 10 ^ k) (hv : v < 10 ^ k) : fixD k u = fixD k v ↔ u = v := by
  constructor
  · intro h
    have h1 := fixD_dec k u 0 hu
    have h2 := fixD_dec k v 0 hv
    rw [h, h2] at h1
    simpa [eq_comm] using h1
  · rintro rfl; rfl
theorem digit_less (a b : Nat) (ha : a < 10) (hb : b < 10) : decide (UInt8.ofNat (48 + a) < UInt8.ofNat (48 + b)) = decide (a < b) := by
  have : ∀ a < 10, ∀ b < 10, decide (UInt8.ofNat (48 + a) < UInt8.ofNat (48 + b)) = decide (a < b) := by decide +kernel
  exact this a ha b hb
theorem fixD_less (k u v : Nat) (hu : u < 10 ^ k) (hv : v < 10 ^ k) : Op.bytesLess (fixD k u) (fixD k v) = decide (u < v) := by
  induction k generalizing u v with
  | zero => simp at hu hv; subst hu hv; rfl
  | succ k ih =>
    rw [Nat.pow_succ] at hu hv
    have hu2 : u / 10 < 10 ^ k := by omega
    have hv2 : v / 10 < 10 ^ k := by omega
    simp only [fixD]
    rw [less_snoc _ _ _ _ (by rw [fixD_length, fixD_length]), ih _ _ hu2 hv2, digit_less _ _ (Nat.mod_lt _ (by decide)) (Nat.mod_lt _ (by decide)), Bool.eq_iff_iff]
    simp only [Bool.or_eq_true, Bool.and_eq_true, decide_eq_true_eq, fixD_inj k _ _ hu2 hv2]
    omega

set_option maxRecDepth 100000 in
set_option maxHeartbeats 4000000 in
theorem serials_walk (W : World) (hT : Tab10 W) (A : Option Addr) (a : List Int) (c : Nat) (n m : Int) (ha : Src W 1 A a.length (Is a)) (hl : a.length ≤ 9223372036854775807) :
    Calls Tryd.prog 5 #[.slice A a.length c, .int .i64 n, .int .i64 m] W fun e w' => e = .returned (.bool true) ∧ Keeps (fun k => W.heap.size ≤ k) W w' := by
  have HF : Hid (∀ {w w' : World}, Keeps (fun _ => False) w w' → Keeps (fun k => w.heap.size ≤ k) w w') := fun h => h.mono (fun _ _ h => h.elim)
  have HT : Hid (∀ w, Keeps (fun _ => False) W w → Tab10 w) := fun w hk => hT.keep hk (fun _ _ h => h)
  clear hT
  have hn : 0 ≤ bits .and .i64 n 1073741823 ∧ bits .and .i64 n 1073741823 ≤ 1073741823 := and_le n 1073741823 (by decide)
  have hm : 0 ≤ bits .and .i64 m 1073741823 ∧ bits .and .i64 m 1073741823 ≤ 1073741823 := and_le m 1073741823 (by decide)
  go_enter Tryd.func5, Tryd.ntmps5
  go_wp2_with fail
  refine (head_path W).mono ?_
  rintro e w0 ⟨rfl, hk0⟩
  have HK := hide hk0
  clear hk0
  by_cases hlen : a.length ≤ 8
  · go_wp2_with fail
    refine (made_path _ A a c (ha.keep HK.out (fun _ _ h => h)) (by omega)).mono ?_
    rintro e w1 ⟨rfl, hk⟩
    replace HK := hide (HK.out.trans' hk)
    have hsl := madeP_le a
    generalize madeP a = s at *
    clear hk ha
    obtain ⟨p, hp⟩ : ∃ p : Nat, bits .and .i64 n 1073741823 = (p : Int) := ⟨(bits .and .i64 n 1073741823).toNat, by omega⟩
    obtain ⟨q, hq⟩ : ∃ q : Nat, bits .and .i64 m 1073741823 = (q : Int) := ⟨(bits .and .i64 m 1073741823).toNat, by omega⟩
    rw [hp] at hn
    rw [hq] at hm
    go_wp2_with fail
    clear hp hq
    refine (serial_any _ s p (by omega) (by omega) (HT.out _ HK.out)).mono ?_
    rintro e w2 ⟨rfl, hk⟩
    replace HK := hide (HK.out.trans' hk)
    clear hk
    rw [show (max (p : Int) 0).toNat = p by omega]
    go_wp2_with fail
    refine (serial_any _ s q (by omega) (by omega) (HT.out _ HK.out)).mono ?_
    rintro e w3 ⟨rfl, hk⟩
    replace HK := hide (HK.out.trans' hk)
    clear hk
    rw [show (max (q : Int) 0).toNat = q by omega]
    obtain ⟨X, hX⟩ : ∃ X, X = s ++ fixD 10 p := ⟨_, rfl⟩
    obtain ⟨Y, hY⟩ : ∃ Y, Y = s ++ fixD 10 q := ⟨_, rfl⟩
    have hXl : X.length = s.length + 10 := by rw [hX, List.length_append, fixD_length]
    have hYl : Y.length = s.length + 10 := by rw [hY, List.length_append, fixD_length]
    have hext : (S X).extract s.length X.length = S (fixD 10 p) := by
      rw [S_extract, List.take_length, hX]
      simp
    have hext2 : (S X).extract s.length (s.length + 10) = S (fixD 10 p) := by rw [← hXl]; exact hext
    rw [← hX, ← hY]
    have hless : Op.bytesLess X Y = decide (p < q) := by
      rw [hX, hY, less_app]
      exact fixD_less 10 p q (by omega) (by omega)
    clear hX hY
    go_wp2_with fail
    refine (atoi_lib _ p (by omega)).mono ?_
    rintro e w4 ⟨rfl, hk⟩
    replace HK := hide (HK.out.trans' hk)
    clear hk hext hext2
    go_wp2_with fail
    refine (serial_any _ s (-1 - p) (by omega) (by omega) (HT.out _ HK.out)).mono ?_
    rintro e w5 ⟨rfl, hk⟩
    replace HK := hide (HK.out.trans' hk)
    clear hk
    rw [show (max (-1 - (p : Int)) 0).toNat = 0 by omega]
    go_wp2_with fail
    refine (serial_any _ s 0 (by omega) (by omega) (HT.out _ HK.out)).mono ?_
    rintro e w6 ⟨rfl, hk⟩
    replace HK := hide (HK.out.trans' hk)
    clear hk
    rw [show (max (0 : Int) 0).toNat = 0 by decide]
    generalize s ++ fixD 10 0 = Z at *
    go_wp2_with fail
    go_ret
    exact ⟨rfl, HF.out HK.out⟩
  · go_wp2_with fail
    go_ret
    exact ⟨rfl, HF.out HK.out⟩

end Go.Proofs.YtcnehacblodiaaaDoor
