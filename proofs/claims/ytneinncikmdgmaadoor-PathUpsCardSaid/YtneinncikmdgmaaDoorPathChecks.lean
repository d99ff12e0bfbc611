/- The law PathChecks, walked. No condition. -/
import Derived.Test.YtneinncikmdgmaaDoorPartL
set_option linter.unusedVariables false
set_option linter.unusedSimpArgs false
namespace Go.Proofs.YtneinncikmdgmaaDoor
open Go.RowKit

/-- the scan of the law: from a place on, with the part at hand and what was wanted -/
theorem cutL_app (c : UInt8) (p l : List UInt8) (hp : c ∉ p) : ∃ q qs, cutL c l = q :: qs ∧ cutL c (p ++ l) = (p ++ q) :: qs := by
  induction p with
  | nil =>
    obtain ⟨q, qs, h⟩ := cutL_ne c l
    exact ⟨q, qs, h, h⟩
  | cons b p ih =>
    simp only [List.mem_cons, not_or] at hp
    obtain ⟨q, qs, h1, h2⟩ := ih hp.2
    refine ⟨q, qs, h1, ?_⟩
    rw [List.cons_append]
    unfold cutL
    rw [if_neg (fun e => hp.1 e.symm), h2]
    rfl
theorem cutL_sep (c : UInt8) (p l : List UInt8) (hp : c ∉ p) : cutL c (p ++ c :: l) = p :: cutL c l := by
  obtain ⟨q, qs, h1, h2⟩ := cutL_app c p (c :: l) hp
  have e : cutL c (c :: l) = [] :: cutL c l := by
    conv => lhs; unfold cutL
    rw [if_pos rfl]
  rw [e] at h1
  injection h1 with h3 h4
  subst h3 h4
  simpa using h2

theorem cutL_none_ {c : UInt8} {l : List UInt8} (h : c ∉ l) : cutL c l = [l] := by
  obtain ⟨q, qs, h1, h2⟩ := cutL_app c l [] h
  have e : cutL c [] = [[]] := rfl
  rw [e] at h1
  injection h1 with h3 h4
  subst h3 h4
  simpa using h2
theorem check_cases (s : List UInt8) : checkF s = 0 ∨ checkF s = 10 := by
  unfold checkF
  split
  · exact .inl rfl
  · split
    · exact .inr rfl
    · split
      · exact .inl rfl
      · exact .inr rfl
/-- what the law wants -/
def wantF (s : List UInt8) : Bool := decide (s = [47]) || (decide (1 < s.length) && decide (s.head? = some 47) && decide (s.length ≤ 60))
theorem prefix_head (s : List UInt8) : [47].isPrefixOf s = decide (s.head? = some 47) := by
  cases s with
  | nil => rfl
  | cons a r =>
    by_cases h : a = 47
    · subst h; simp
    · have : ((47 : UInt8) == a) = false := by simpa using fun e => h e.symm
      simp [List.isPrefixOf, h, this]
theorem check_want (s : List UInt8) (h : s ≠ [47]) : (checkF s == 0) = (wantF s && (cutL 47 (s.drop 1)).all partF) := by
  unfold checkF wantF
  rw [if_neg h, prefix_head]
  generalize (cutL 47 (s.drop 1)).all partF = A
  have h1 : decide (s = [47]) = false := by simpa using h
  rw [h1]
  by_cases h2 : s.head? = some 47
  · have h3 : 1 < s.length := by
      match s, h, h2 with
      | [a], h, h2 => simp at h2; exact absurd (by rw [h2]) h
      | a :: b :: r, _, _ => simp
    by_cases h4 : 60 < s.length
    · have h5 : ¬ s.length ≤ 60 := by omega
      simp [h4, h5]
    · have h5 : s.length ≤ 60 := by omega
      cases A <;> simp [h2, h3, h4, h5]
  · simp [h2]

/-- how far the scan is: what is behind it, the part at hand -/
theorem scan_step (s p : List UInt8) (i : Nat) (c : UInt8) (h : s[i]? = some c) (hc : c ≠ 47) : (p ++ [c]) ++ s.drop (i + 1) = p ++ s.drop i := by
  obtain ⟨hi, rfl⟩ := List.getElem?_eq_some_iff.1 h
  rw [List.drop_eq_getElem_cons hi]
  simp

set_option maxRecDepth 100000 in
set_option maxHeartbeats 4000000 in
theorem checks_walk (W : World) (hG : GL W) (s : List UInt8) (hs : s.length ≤ 9223372036854775807) :
    Calls Tryd.prog 9 #[.string (S s)] W fun e w' => e = .returned (.bool true) ∧ Keeps (fun k => W.heap.size ≤ k) W w' := by
  have HF : Hid (∀ {w w' : World}, Keeps (fun _ => False) w w' → Keeps (fun k => w.heap.size ≤ k) w w') := fun h => h.mono (fun _ _ h => h.elim)
  go_enter Tryd.func9, Tryd.ntmps9
  go_wp2_with fail
  refine (head_path W).mono ?_
  rintro e w0 ⟨rfl, hk0⟩
  have HK := hide hk0
  have HG := hide (hG.keep hk0 (fun h => h))
  clear hk0
  by_cases h0 : s = [47]
  · subst h0
    go_wp2_with fail
    refine (check_path w0 [47] (by decide) HG.out).mono ?_
    rintro e w1 ⟨rfl, hk⟩
    have HG1 := hide (HG.out.keep hk (fun h => h))
    have HK1 := hide (HK.out.trans' hk)
    clear hk
    go_wp2_with fail
    refine (check_path w1 [47] (by decide) HG1.out).mono ?_
    rintro e w2 ⟨rfl, hk⟩
    have HG2 := hide (HG1.out.keep hk (fun h => h))
    have HK2 := hide (HK1.out.trans' hk)
    clear hk
    go_wp2_with fail
    refine (part_path w2 [47] (by decide)).mono ?_
    rintro e w3 ⟨rfl, hk⟩
    have HK3 := hide (HK2.out.trans' hk)
    clear hk
    go_wp2_with fail
    refine (partL_path w3 [47] (by decide)).mono ?_
    rintro e w4 ⟨rfl, rfl⟩
    go_wp2_with fail
    go_ret
    exact ⟨rfl, HF.out HK3.out⟩
  have h0b : (s == [47]) = false := by simpa using h0
  have HW := hide (check_want s h0)
  have HCC := hide (check_cases s)
  by_cases hl : s.length ≤ 200
  · go_upto_region 5 with fail
    go_cut [3] (fun s3 wx => s3 = .bool (wantF s) ∧ wx = w0)
    case first =>
      have key : ∀ a : UInt8, (a.toNat : Int) = 47 ↔ a = 47 := fun a => ⟨fun h => UInt8.toNat_inj.1 (by have h2 : (47 : UInt8).toNat = 47 := rfl; omega), fun h => by subst h; rfl⟩
      have KEY := hide key
      clear key h0
      go_wp2_with fail
      all_goals go_meet
      all_goals
        refine ⟨congrArg Value.bool ?_, rfl⟩
        have key := KEY.out
        clear KEY HK HG HW HCC
        cases s with
        | nil => simp_all [wantF]
        | cons a r =>
          by_cases ha : a = 47
          · subst ha
            rw [Bool.eq_iff_iff]
            simp_all [wantF]
            try omega
          · have h2 : ¬ (a.toNat : Int) = 47 := fun h => ha ((key a).1 h)
            rw [Bool.eq_iff_iff]
            simp_all [wantF]
            try omega
    case rest =>
      obtain ⟨rfl, rfl⟩ := hcut
      clear h0
      go_wp2_with fail
      obtain ⟨T, hT⟩ : ∃ T, T = (wantF s && (cutL 47 (s.drop 1)).all partF) := ⟨_, rfl⟩
      rw [← hT] at HW
      have H0 : Hid (T = (wantF s && (if 1 ≤ s.length then (cutL 47 ([] ++ s.drop 1)).all partF else true))) := by
        show _ = _
        rw [hT]
        cases s with
        | nil => rfl
        | cons a r => simp
      clear hT
      go_loop [3, 4, 5] (fun s3 s4 i => ∃ (k : Nat) (p : List UInt8) (b : Bool), 1 ≤ k ∧ k ≤ s.length + 1 ∧ i = .int .i64 k ∧ s3 = .bool b ∧ s4 = .string (S p) ∧ p.length ≤ k ∧ 47 ∉ p ∧ T = (b && (if k ≤ s.length then (cutL 47 (p ++ s.drop k)).all partF else true))) (fun _ _ i => s.length + 2 - (intOf i).toNat)
      case atStart => exact ⟨1, [], wantF s, by omega, by omega, rfl, rfl, rfl, by simp, by simp, H0.out⟩
      case round =>
        obtain ⟨k, p, b, hk1, hk2, rfl, rfl, rfl, hpl, hp47, hinv⟩ := hrel
        have HN := hide hp47
        have HI := hide hinv
        clear hp47 hinv H0
        by_cases hlt : k < s.length
        · have hk3 : k ≤ s.length := by omega
          by_cases hc : s[k] = 47
          · have hcb : (s[k].toNat : Int) = 47 := by rw [hc]; rfl
            have e : T = (b && (partF p && (cutL 47 (s.drop (k + 1))).all partF)) := by
              rw [HI.out, if_pos hk3, List.drop_eq_getElem_cons hlt, hc, cutL_sep 47 p _ HN.out]
              simp
            have E := hide e
            clear e hc
            cases b
            · go_wp2_with fail
              all_goals
                go_round
                case rel =>
                  refine ⟨k + 1, [], false, by omega, by omega, by go_num, rfl, rfl, by simp, by simp, ?_⟩
                  rw [E.out]; simp
                case measure => simp [intOf]; omega
            · go_wp2_with fail
              refine (partL_path _ p (by omega)).mono ?_
              rintro e w2 ⟨rfl, rfl⟩
              go_wp2_with fail
              go_round
              case rel =>
                refine ⟨k + 1, [], partF p, by omega, by omega, by go_num, by simp, rfl, by simp, by simp, ?_⟩
                rw [E.out, if_pos (by omega)]; simp
              case measure => simp [intOf]; omega
          · have hcb : ((s[k].toNat : Int) == 47) = false := by
              simp only [beq_eq_false_iff_ne, ne_eq]
              intro h
              exact hc (UInt8.toNat_inj.1 (by have h2 : (47 : UInt8).toNat = 47 := rfl; omega))
            have e2 : (S s).extract k (k + 1) = S [s[k]] := by
              rw [S_extract, List.take_succ_eq_append_getElem hlt, List.drop_append_of_le_length (by simp; omega)]
              simp
            have E2 := hide e2
            have HC := hide hc
            clear hc e2
            go_wp2_with fail
            go_round
            case rel =>
              refine ⟨k + 1, p ++ [s[k]], b, by omega, by omega, by go_num, rfl, ?_, by simp; omega, ?_, ?_⟩
              · rw [E2.out, S_append]
              · simp only [List.mem_append, List.mem_singleton, not_or]
                exact ⟨HN.out, fun e => HC.out e.symm⟩
              · rw [HI.out, if_pos hk3, if_pos (by omega), scan_step s p k _ (List.getElem?_eq_getElem hlt) HC.out]
            case measure => simp [intOf]; omega
        · by_cases hle : k ≤ s.length
          · obtain rfl : k = s.length := by omega
            have e : T = (b && partF p) := by
              rw [HI.out, if_pos hle, List.drop_length, List.append_nil, cutL_none_ HN.out]
              simp
            have E := hide e
            clear e
            cases b
            · go_wp2_with fail
              all_goals
                go_round
                case rel =>
                  refine ⟨s.length + 1, [], false, by omega, by omega, by go_num, rfl, rfl, by simp, by simp, ?_⟩
                  rw [E.out]; simp
                case measure => simp [intOf]
            · go_wp2_with fail
              refine (partL_path _ p (by omega)).mono ?_
              rintro e w2 ⟨rfl, rfl⟩
              go_wp2_with fail
              go_round
              case rel =>
                refine ⟨s.length + 1, [], partF p, by omega, by omega, by go_num, by simp, rfl, by simp, by simp, ?_⟩
                rw [E.out, if_neg (by omega)]; simp
              case measure => simp [intOf]
          · obtain rfl : k = s.length + 1 := by omega
            have e : T = b := by rw [HI.out, if_neg hle]; simp
            subst e
            have HPL : Hid (∀ w, Calls Tryd.prog 39 #[.string (S s)] w fun e w' => e = .returned (.bool (partF s)) ∧ w = w') := fun w => partL_path w s (by omega)
            rcases HCC.out with hc | hc
            · have hb : T = true := by rw [← HW.out, hc]; rfl
              subst hb
              have EC := hide hc
              clear hc HW HCC HI
              go_wp2_with fail
              refine (show Calls _ _ _ _ fun e w' => e = .returned (.int .i64 0) ∧ Keeps (fun _ => False) _ w' from EC.out ▸ check_path _ s (by omega) HG.out).mono ?_
              rintro e w1 ⟨rfl, hk⟩
              replace HG := hide (HG.out.keep hk (fun h => h))
              replace HK := hide (HK.out.trans' hk)
              clear hk
              go_wp2_with fail
              refine (show Calls _ _ _ _ fun e w' => e = .returned (.int .i64 0) ∧ Keeps (fun _ => False) _ w' from EC.out ▸ check_path _ s (by omega) HG.out).mono ?_
              rintro e w1 ⟨rfl, hk⟩
              replace HG := hide (HG.out.keep hk (fun h => h))
              replace HK := hide (HK.out.trans' hk)
              clear hk
              go_wp2_with fail
              refine (part_path _ s (by omega)).mono ?_
              generalize partF s = P at *
              rintro e w1 ⟨rfl, hk⟩
              replace HK := hide (HK.out.trans' hk)
              clear hk
              go_wp2_with fail
              refine (HPL.out _).mono ?_
              rintro e w2 ⟨rfl, rfl⟩
              go_wp2_with fail
              go_ret
              exact ⟨by simp, HF.out HK.out⟩
            · have hb : T = false := by rw [← HW.out, hc]; rfl
              subst hb
              have EC := hide hc
              clear hc HW HCC HI
              go_wp2_with fail
              refine (show Calls _ _ _ _ fun e w' => e = .returned (.int .i64 10) ∧ Keeps (fun _ => False) _ w' from EC.out ▸ check_path _ s (by omega) HG.out).mono ?_
              rintro e w1 ⟨rfl, hk⟩
              replace HG := hide (HG.out.keep hk (fun h => h))
              replace HK := hide (HK.out.trans' hk)
              clear hk
              go_wp2_with fail
              refine (show Calls _ _ _ _ fun e w' => e = .returned (.int .i64 10) ∧ Keeps (fun _ => False) _ w' from EC.out ▸ check_path _ s (by omega) HG.out).mono ?_
              rintro e w1 ⟨rfl, hk⟩
              replace HG := hide (HG.out.keep hk (fun h => h))
              replace HK := hide (HK.out.trans' hk)
              clear hk
              go_wp2_with fail
              refine (show Calls _ _ _ _ fun e w' => e = .returned (.int .i64 10) ∧ Keeps (fun _ => False) _ w' from EC.out ▸ check_path _ s (by omega) HG.out).mono ?_
              rintro e w1 ⟨rfl, hk⟩
              replace HG := hide (HG.out.keep hk (fun h => h))
              replace HK := hide (HK.out.trans' hk)
              clear hk
              go_wp2_with fail
              refine (part_path _ s (by omega)).mono ?_
              generalize partF s = P at *
              rintro e w1 ⟨rfl, hk⟩
              replace HK := hide (HK.out.trans' hk)
              clear hk
              go_wp2_with fail
              refine (HPL.out _).mono ?_
              rintro e w2 ⟨rfl, rfl⟩
              go_wp2_with fail
              go_ret
              exact ⟨by simp, HF.out HK.out⟩
  · go_wp2_with fail
    go_ret
    exact ⟨rfl, HF.out HK.out⟩

end Go.Proofs.YtneinncikmdgmaaDoor
