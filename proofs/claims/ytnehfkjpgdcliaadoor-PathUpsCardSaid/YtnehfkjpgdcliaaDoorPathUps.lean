/- The law PathUps, walked. No condition. -/
import Derived.Test.YtnehfkjpgdcliaaDoorJoinP
import Derived.Test.YtnehfkjpgdcliaaDoorOpen
set_option linter.unusedVariables false
set_option linter.unusedSimpArgs false
namespace Go.Proofs.YtnehfkjpgdcliaaDoor
open Go.RowKit

theorem Src.take {w : World} {A : Option Addr} {n : Nat} {xs : List Value} (h : Src w 1 A n xs) (k : Nat) (hk : k ≤ n) : Src w 1 A k (xs.take k) := by
  obtain ⟨h1, h2⟩ := h
  refine ⟨by simp; omega, fun h0 => ?_⟩
  obtain ⟨ad, e, h3⟩ := h2 (by omega)
  exact ⟨ad, e, fun j u hu => h3 j u (by rw [List.getElem?_take] at hu; split at hu; exact hu; cases hu)⟩
theorem Src.one {w : World} {ad : Addr} {n : Nat} {xs : List Value} (h : Src w 1 (some ad) n xs) (k : Nat) (u : Value) (hu : xs[k]? = some u) : Src w 1 (some (ad.add k)) 1 [u] := by
  obtain ⟨h1, h2⟩ := h
  have hk : k < n := by have := (List.getElem?_eq_some_iff.1 hu).1; omega
  obtain ⟨ad', e, h3⟩ := h2 (by omega)
  cases e
  refine ⟨rfl, fun _ => ⟨_, rfl, fun j v hv => ?_⟩⟩
  have : j = 0 := by have := (List.getElem?_eq_some_iff.1 hv).1; simp at this; exact this
  subst this
  rw [add_add]
  have e : u = v := by simpa using hv
  subst e
  exact h3 k u hu

theorem made_eq (x y : Int) {b : Bool} (h : decide (pid x = pid y) = b) : (madeP [x] == madeP [y]) = b := by
  rw [← h, Bool.eq_iff_iff]
  simpa using made_one x y

/-- what up answers at a path of some parts -/
theorem ups_cases (a : List Int) : (a = [] ∧ madeP a = [47] ∧ upF (madeP a) = ([], [])) ∨ ∃ m n, 1 ≤ a.length ∧ (madeP a == [47]) = false ∧ upF (madeP a) = (m, n) ∧ madeP (a.take (a.length - 1)) = m ∧ partF n = true ∧ joinF m n = madeP a ∧ belowF (madeP a) m = true ∧ belowF m (madeP a) = false ∧ m.length ≤ 4 * a.length + 1 ∧ n.length ≤ 3 := by
  rcases List.eq_nil_or_concat a with rfl | ⟨r, x, rfl⟩
  · exact .inl ⟨rfl, rfl, rfl⟩
  · right
    rw [List.concat_eq_append]
    have hm : madeP (r ++ [x]) = joinP r (nameP (pid x)) := made_join r x
    have hb : belowF (joinP r (nameP (pid x))) (madeP r) = true := below_made r _ (by have := part_len (name_part (pid x)); intro h; simp [h] at this)
    have h1 := madeP_le r
    have h2 := madeP_ne (r ++ [x])
    refine ⟨madeP r, nameP (pid x), by simp, ?_, ?_, by simp, name_part _, ?_, ?_, ?_, ?_, nameP_le _⟩
    · have := madeP_root (r ++ [x])
      simpa using this
    · rw [hm]; exact up_made r _ (name_part _)
    · rw [hm]; exact join_made r _
    · rw [hm]; exact hb
    · rw [hm] at h2 ⊢; exact below_asym h2 (madeP_ne r) hb
    · simp; omega

theorem par_cap {P : Program} {w : World} {r : Reach} {b0 : Nat} {t e : TypeId} (ht : P.underlying t = some (.slice e)) {A : Option Addr} {n c : Nat} (hv : Value.okWide P w r b0 t (.slice A n c)) : n ≤ c ∧ c ≤ 9223372036854775807 := by
  unfold Value.okWide at hv
  simp only [ht, Cell.okWide, Cell.ok] at hv
  cases A with
  | none =>
    split at hv <;> simp_all
  | some a =>
    have h1 := hv.2.1
    have h2 : IntKind.i64.max = 9223372036854775807 := by decide
    rw [h2] at h1
    exact ⟨hv.1, by omega⟩

set_option maxRecDepth 100000 in
set_option maxHeartbeats 4000000 in
theorem ups_walk (W : World) (hG : GL W) (A B : Option Addr) (a b : List Int) (ca cb : Nat) (ha : Src W 1 A a.length (Is a)) (hb : Src W 1 B b.length (Is b))
    (la : a.length ≤ ca) (lb : b.length ≤ cb) (la2 : ca ≤ 9223372036854775807) (lb2 : cb ≤ 9223372036854775807) :
    Calls Tryd.prog 3 #[.slice A a.length ca, .slice B b.length cb] W fun e w' => e = .returned (.bool true) ∧ Keeps (fun k => W.heap.size ≤ k) W w' := by
  have HF : Hid (∀ {w w' : World}, Keeps (fun _ => False) w w' → Keeps (fun k => w.heap.size ≤ k) w w') := fun h => h.mono (fun _ _ h => h.elim)
  go_enter Tryd.func3, Tryd.ntmps3
  go_wp2_with fail
  refine (head_path W).mono ?_
  rintro e w0 ⟨rfl, hk0⟩
  have HK := hide hk0
  have HG := hide (hG.keep hk0 (fun h => h))
  clear hk0
  by_cases hl : a.length ≤ 8 ∧ b.length ≤ 8
  · obtain ⟨l1, l2⟩ := hl
    have mx := madeP_le a
    have my := madeP_le b
    go_wp2_with fail
    refine (made_path _ A a ca (ha.keep HK.out (fun _ _ h => h)) (by omega)).mono ?_
    rintro e w1 ⟨rfl, hk⟩
    replace HK := hide (HK.out.trans' hk)
    replace HG := hide (HG.out.keep hk (fun h => h))
    clear hk
    go_wp2_with fail
    refine (made_path _ B b cb (hb.keep HK.out (fun _ _ h => h)) (by omega)).mono ?_
    rintro e w2 ⟨rfl, hk⟩
    replace HK := hide (HK.out.trans' hk)
    replace HG := hide (HG.out.keep hk (fun h => h))
    clear hk
    have HC := hide (made_check a l1)
    have HB := hide (below_agree a b)
    have HS := hide (below_self (madeP a))
    have CS := hide (ups_cases a)
    generalize madeP a = s at *
    generalize madeP b = t at *
    go_wp2_with fail
    refine (up_path _ s (by omega)).mono ?_
    rintro e w3 ⟨rfl, hk⟩
    replace HK := hide (HK.out.trans' hk)
    replace HG := hide (HG.out.keep hk (fun h => h))
    clear hk
    rcases CS.out with ⟨h1, h2, h3⟩ | ⟨m, n, h1, h2, h3, h4, h5, h6, h7, h8, h9, h10⟩
    · rw [h3]
      have hs : (s == [47]) = true := by rw [h2]; rfl
      have e1 : (([] : List UInt8) == []) = true := rfl
      clear h1 h2 h3 CS
      go_upto_region 13 with fail
      go_wp2_with fail
      go_loopw [9, 76] (fun s9 i wr => ∃ k : Nat, k ≤ b.length ∧ i = .int .i64 k ∧ s9 = .bool (decide (b.length < a.length) && agreeP a b k) ∧ Keeps (fun _ => False) W wr) (fun _ i _ => b.length - (intOf i).toNat)
      case atStart => exact ⟨0, by omega, rfl, by simp [agreeP], HK.out⟩
      case round =>
        obtain ⟨k, hk, rfl, rfl, hK⟩ := hrel
        have HK := hide hK
        clear hK
        by_cases hlt : k < b.length
        · cases hT : (decide (b.length < a.length) && agreeP a b k)
          · have HT : Hid ((decide (b.length < a.length) && agreeP a b (k + 1)) = false) := by
              show _ = _
              rw [agreeP, ← Bool.and_assoc, hT]; rfl
            clear hT
            go_upto_region 17 with fail
            go_quiet (fail)
            go_wp2_with fail
            go_roundw
            case rel => exact ⟨k + 1, by omega, by go_num, by rw [HT.out], HK.out.drewN _⟩
            case measure => simp [intOf]; omega
          · have hka : k < a.length := by
              simp only [Bool.and_eq_true, decide_eq_true_eq] at hT
              omega
            have HT : Hid ((decide (b.length < a.length) && agreeP a b (k + 1)) = decide (pid a[k] = pid b[k])) := by
              show _ = _
              rw [agreeP, ← Bool.and_assoc, hT, List.getElem?_eq_getElem hka, List.getElem?_eq_getElem hlt]; rfl
            obtain ⟨ad, u, rfl, hu, _⟩ := ha.at_ hka
            obtain ⟨bd, v, rfl, hv, _⟩ := hb.at_ hlt
            have hu2 : (Is a)[k]? = some (.int .i64 a[k]) := by simp [Is, List.getElem?_eq_getElem hka]
            have hv2 : (Is b)[k]? = some (.int .i64 b[k]) := by simp [Is, List.getElem?_eq_getElem hlt]
            have CA : Hid (∀ w, Keeps (fun _ => False) W w → Calls Tryd.prog 7 #[.slice (some (ad.add k)) 1 (ca - k)] w fun e w' => e = .returned (.string (S (madeP [a[k]]))) ∧ Keeps (fun _ => False) w w') := fun w hk =>
              made_path w (some (ad.add k)) [a[k]] (ca - k) ((ha.keep hk (fun _ _ h => h)).one k _ hu2) (by simp)
            have CB : Hid (∀ w, Keeps (fun _ => False) W w → Calls Tryd.prog 7 #[.slice (some (bd.add k)) 1 (cb - k)] w fun e w' => e = .returned (.string (S (madeP [b[k]]))) ∧ Keeps (fun _ => False) w w') := fun w hk =>
              made_path w (some (bd.add k)) [b[k]] (cb - k) ((hb.keep hk (fun _ _ h => h)).one k _ hv2) (by simp)
            have HE : Hid (∀ c, decide (pid a[k] = pid b[k]) = c → (madeP [a[k]] == madeP [b[k]]) = c) := fun c => made_eq _ _
            clear hT hu hv hu2 hv2
            generalize a[k] = X at *
            generalize b[k] = Y at *
            generalize madeP [X] = X' at *
            generalize madeP [Y] = Y' at *
            have w1 : IntKind.i64.wrap ((k : Int) + 1) = (k : Int) + 1 := IntWalk.i64_in _ ⟨by omega, by omega⟩
            have w2 : (0 : Int) ≤ (k : Int) + 1 := by omega
            have w3' : ((k : Int) + 1).toNat = k + 1 := by omega
            have w4 : k + 1 - k = 1 := by omega
            have w5 : (k : Int) ≤ (k : Int) + 1 := by omega
            have w6 : (k : Int) + 1 ≤ ca := by omega
            have w7 : (k : Int) + 1 ≤ cb := by omega
            have w8 : (0 : Int) ≤ k := by omega
            have w9 : ¬ ca = k := by omega
            have w10 : ¬ cb = k := by omega
            go_upto_region 17 with fail
            go_region_held3 (fun w' => Keeps (fun _ => False) W w') (((repeat (first | refine Keeps.drew ?_ | refine Keeps.drewN ?_ _)); first | exact HK5 | exact HK4 | exact HK.out)) (first
              | (have hq := HK4; clear hq; go_at_call 7; refine (CB.out _ (by (repeat (first | refine Keeps.drew ?_ | refine Keeps.drewN ?_ _)); exact HK4)).mono ?_; rintro e w5 ⟨rfl, hk5⟩; have HK5 : Keeps (fun _ => False) W w5 := Keeps.trans' (by (repeat (first | refine Keeps.drew ?_ | refine Keeps.drewN ?_ _)); exact HK4) hk5)
              | (go_at_call 7; refine (CA.out _ (by (repeat (first | refine Keeps.drew ?_ | refine Keeps.drewN ?_ _)); exact HK.out)).mono ?_; rintro e w4 ⟨rfl, hk4⟩; have HK4 : Keeps (fun _ => False) W w4 := Keeps.trans' (by (repeat (first | refine Keeps.drew ?_ | refine Keeps.drewN ?_ _)); exact HK.out) hk4))
            all_goals
              go_wp2_with fail
              go_roundw
              case rel =>
                refine ⟨k + 1, by omega, by go_num, ?_, ?_⟩
                · rw [HT.out, HE.out _ rfl]
                · (repeat (first | refine Keeps.drew ?_ | refine Keeps.drewN ?_ _)); exact HK5
              case measure => simp [intOf]; omega
        · obtain rfl : k = b.length := by omega
          have HBB : Hid (belowF s t = (decide (b.length < a.length) && agreeP a b b.length)) := HB
          generalize (decide (b.length < a.length) && agreeP a b b.length) = R at *
          have e9 : (R == R) = true := by simp
          go_wp2_with fail
          refine (below_eq _ s t (by omega) (by omega) HBB.out).mono ?_
          rintro e w5 ⟨rfl, rfl⟩
          go_wp2_with fail
          refine (show Calls _ _ _ _ fun e w' => e = .returned (.int .i64 0) ∧ Keeps (fun _ => False) _ w' from HC.out ▸ check_path _ s (by omega) (hG.keep HK.out (fun h => h))).mono ?_
          rintro e w6 ⟨rfl, hk⟩
          replace HK := hide (HK.out.trans' hk)
          clear hk
          go_wp2_with fail
          refine (below_eq _ s s (by omega) (by omega) HS.out).mono ?_
          rintro e w5 ⟨rfl, rfl⟩
          go_wp2_with fail
          go_ret
          exact ⟨rfl, HF.out HK.out⟩
    · rw [h3]
      have H4 := hide h4
      have H5 := hide h5
      have H6 := hide h6
      have H7 := hide h7
      have H8 := hide h8
      have e1 : (m == m) = true := by simp
      have e2 : (s == s) = true := by simp
      have hcx : ((a.length : Int) - 1).toNat = a.length - 1 := by omega
      have hcy : (a.length : Int) - 1 = (a.length - 1 : Nat) := by omega
      have HMT : Hid (∀ w, Keeps (fun _ => False) W w → Calls Tryd.prog 7 #[.slice A (a.length - 1 : Nat) ca] w fun e w' => e = .returned (.string (S m)) ∧ Keeps (fun _ => False) w w') := fun w hk => by
        have hS := (ha.keep hk (fun _ _ h => h)).take (a.length - 1) (by omega)
        have hlen : (a.take (a.length - 1)).length = a.length - 1 := by simp
        have := made_path w A (a.take (a.length - 1)) ca (by rw [hlen]; simpa [Is] using hS) (by omega)
        rw [hlen, h4] at this
        exact this
      clear h3 h4 h5 h6 h7 h8 CS
      go_wp2_with fail
      refine (HMT.out _ HK.out).mono ?_
      rintro e w4 ⟨rfl, hk⟩
      replace HK := hide (HK.out.trans' hk)
      replace HG := hide (HG.out.keep hk (fun h => h))
      clear hk
      go_wp2_with fail
      refine (show Calls _ _ _ _ fun e w' => e = .returned (.bool true) ∧ _ = w' from H5.out ▸ partL_path _ n (by omega)).mono ?_
      rintro e w5 ⟨rfl, rfl⟩
      go_wp2_with fail
      refine (show Calls _ _ _ _ fun e w' => e = .returned (.string (S s)) ∧ _ = w' from H6.out ▸ join_path _ m n (by omega) (by omega)).mono ?_
      rintro e w5 ⟨rfl, rfl⟩
      go_wp2_with fail
      refine (below_eq _ s m (by omega) (by omega) H7.out).mono ?_
      rintro e w5 ⟨rfl, rfl⟩
      go_wp2_with fail
      refine (below_eq _ m s (by omega) (by omega) H8.out).mono ?_
      rintro e w5 ⟨rfl, rfl⟩
      go_upto_region 13 with fail
      clear hcx hcy
      go_wp2_with fail
      go_loopw [9, 76] (fun s9 i wr => ∃ k : Nat, k ≤ b.length ∧ i = .int .i64 k ∧ s9 = .bool (decide (b.length < a.length) && agreeP a b k) ∧ Keeps (fun _ => False) W wr) (fun _ i _ => b.length - (intOf i).toNat)
      case atStart => exact ⟨0, by omega, rfl, by simp [agreeP], HK.out⟩
      case round =>
        obtain ⟨k, hk, rfl, rfl, hK⟩ := hrel
        have HK := hide hK
        clear hK
        by_cases hlt : k < b.length
        · cases hT : (decide (b.length < a.length) && agreeP a b k)
          · have HT : Hid ((decide (b.length < a.length) && agreeP a b (k + 1)) = false) := by
              show _ = _
              rw [agreeP, ← Bool.and_assoc, hT]; rfl
            clear hT
            go_upto_region 17 with fail
            go_quiet (fail)
            go_wp2_with fail
            go_roundw
            case rel => exact ⟨k + 1, by omega, by go_num, by rw [HT.out], HK.out.drewN _⟩
            case measure => simp [intOf]; omega
          · have hka : k < a.length := by
              simp only [Bool.and_eq_true, decide_eq_true_eq] at hT
              omega
            have HT : Hid ((decide (b.length < a.length) && agreeP a b (k + 1)) = decide (pid a[k] = pid b[k])) := by
              show _ = _
              rw [agreeP, ← Bool.and_assoc, hT, List.getElem?_eq_getElem hka, List.getElem?_eq_getElem hlt]; rfl
            obtain ⟨ad, u, rfl, hu, _⟩ := ha.at_ hka
            obtain ⟨bd, v, rfl, hv, _⟩ := hb.at_ hlt
            have hu2 : (Is a)[k]? = some (.int .i64 a[k]) := by simp [Is, List.getElem?_eq_getElem hka]
            have hv2 : (Is b)[k]? = some (.int .i64 b[k]) := by simp [Is, List.getElem?_eq_getElem hlt]
            have CA : Hid (∀ w, Keeps (fun _ => False) W w → Calls Tryd.prog 7 #[.slice (some (ad.add k)) 1 (ca - k)] w fun e w' => e = .returned (.string (S (madeP [a[k]]))) ∧ Keeps (fun _ => False) w w') := fun w hk =>
              made_path w (some (ad.add k)) [a[k]] (ca - k) ((ha.keep hk (fun _ _ h => h)).one k _ hu2) (by simp)
            have CB : Hid (∀ w, Keeps (fun _ => False) W w → Calls Tryd.prog 7 #[.slice (some (bd.add k)) 1 (cb - k)] w fun e w' => e = .returned (.string (S (madeP [b[k]]))) ∧ Keeps (fun _ => False) w w') := fun w hk =>
              made_path w (some (bd.add k)) [b[k]] (cb - k) ((hb.keep hk (fun _ _ h => h)).one k _ hv2) (by simp)
            have HE : Hid (∀ c, decide (pid a[k] = pid b[k]) = c → (madeP [a[k]] == madeP [b[k]]) = c) := fun c => made_eq _ _
            clear hT hu hv hu2 hv2
            generalize a[k] = X at *
            generalize b[k] = Y at *
            generalize madeP [X] = X' at *
            generalize madeP [Y] = Y' at *
            have w1 : IntKind.i64.wrap ((k : Int) + 1) = (k : Int) + 1 := IntWalk.i64_in _ ⟨by omega, by omega⟩
            have w2 : (0 : Int) ≤ (k : Int) + 1 := by omega
            have w3' : ((k : Int) + 1).toNat = k + 1 := by omega
            have w4 : k + 1 - k = 1 := by omega
            have w5 : (k : Int) ≤ (k : Int) + 1 := by omega
            have w6 : (k : Int) + 1 ≤ ca := by omega
            have w7 : (k : Int) + 1 ≤ cb := by omega
            have w8 : (0 : Int) ≤ k := by omega
            have w9 : ¬ ca = k := by omega
            have w10 : ¬ cb = k := by omega
            go_upto_region 17 with fail
            go_region_held3 (fun w' => Keeps (fun _ => False) W w') (((repeat (first | refine Keeps.drew ?_ | refine Keeps.drewN ?_ _)); first | exact HK5 | exact HK4 | exact HK.out)) (first
              | (have hq := HK4; clear hq; go_at_call 7; refine (CB.out _ (by (repeat (first | refine Keeps.drew ?_ | refine Keeps.drewN ?_ _)); exact HK4)).mono ?_; rintro e w5 ⟨rfl, hk5⟩; have HK5 : Keeps (fun _ => False) W w5 := Keeps.trans' (by (repeat (first | refine Keeps.drew ?_ | refine Keeps.drewN ?_ _)); exact HK4) hk5)
              | (go_at_call 7; refine (CA.out _ (by (repeat (first | refine Keeps.drew ?_ | refine Keeps.drewN ?_ _)); exact HK.out)).mono ?_; rintro e w4 ⟨rfl, hk4⟩; have HK4 : Keeps (fun _ => False) W w4 := Keeps.trans' (by (repeat (first | refine Keeps.drew ?_ | refine Keeps.drewN ?_ _)); exact HK.out) hk4))
            all_goals
              go_wp2_with fail
              go_roundw
              case rel =>
                refine ⟨k + 1, by omega, by go_num, ?_, ?_⟩
                · rw [HT.out, HE.out _ rfl]
                · (repeat (first | refine Keeps.drew ?_ | refine Keeps.drewN ?_ _)); exact HK5
              case measure => simp [intOf]; omega
        · obtain rfl : k = b.length := by omega
          have HBB : Hid (belowF s t = (decide (b.length < a.length) && agreeP a b b.length)) := HB
          generalize (decide (b.length < a.length) && agreeP a b b.length) = R at *
          have e9 : (R == R) = true := by simp
          go_wp2_with fail
          refine (below_eq _ s t (by omega) (by omega) HBB.out).mono ?_
          rintro e w5 ⟨rfl, rfl⟩
          go_wp2_with fail
          refine (show Calls _ _ _ _ fun e w' => e = .returned (.int .i64 0) ∧ Keeps (fun _ => False) _ w' from HC.out ▸ check_path _ s (by omega) (hG.keep HK.out (fun h => h))).mono ?_
          rintro e w6 ⟨rfl, hk⟩
          replace HK := hide (HK.out.trans' hk)
          clear hk
          go_wp2_with fail
          refine (below_eq _ s s (by omega) (by omega) HS.out).mono ?_
          rintro e w5 ⟨rfl, rfl⟩
          go_wp2_with fail
          go_ret
          exact ⟨rfl, HF.out HK.out⟩
  · by_cases h1 : a.length ≤ 8
    · have h2 : ¬ b.length ≤ 8 := fun h => hl ⟨h1, h⟩
      clear hl
      go_wp2_with fail
      go_ret
      exact ⟨rfl, HF.out HK.out⟩
    · clear hl
      go_wp2_with fail
      go_ret
      exact ⟨rfl, HF.out HK.out⟩

end Go.Proofs.YtnehfkjpgdcliaaDoor
