/- The law SessOnce, walked: whatever numbers and texts come in, it answers true. No condition. -/
import Derived.Test.YtinpnnfeggjbeaaSess
set_option linter.unusedVariables false
namespace Go.Proofs.Ytinpnnfeggjbeaa
open Go.RowKit

set_option maxRecDepth 100000 in
theorem head_sess (w : World) : Calls Try.prog 14 #[] w fun e w' => e = .returned (.bool true) ∧ Keeps (fun _ => False) w w' := by
  go_enter Try.func14, Try.ntmps14
  go_wp2_with fail
  refine (new_sess w).mono ?_
  rintro e w1 ⟨t, mb, rfl, hT, ht, hmb, hk⟩
  have HT := hide hT
  have HK := hide hk
  clear hT hk
  go_wp2_with fail
  refine (open_sess _ _ _ _ _ HT.out).mono ?_
  rintro e w2 ⟨rfl, hT, hk2⟩
  replace hT : Tb w2 t mb [(5, (0, []))] := hT
  replace HK := hide (HK.out.trans hk2 (fun i hi e => by omega))
  replace HT := hide hT
  clear hT hk2
  go_wp2_with fail
  refine (keep_sess _ _ _ _ _ _ [120] (by simp) HT.out).mono ?_
  rintro e w3 ⟨rfl, hT, hk2⟩
  replace hT : Tb w3 t mb [(5, (1, [120]))] := hT
  replace HK := hide (HK.out.trans hk2 (fun i hi e => by omega))
  replace HT := hide hT
  clear hT hk2
  go_wp2_with fail
  refine (seen_sess _ _ _ _ _ _ HT.out).mono ?_
  rintro e w4 ⟨rfl, hk2⟩
  replace HK := hide (HK.out.trans' hk2)
  replace HT := hide (HT.out.kept hk2 (fun h => h) (fun h => h))
  clear hk2
  go_wp2_with fail
  refine (seen_sess _ _ _ _ _ _ HT.out).mono ?_
  rintro e w5 ⟨rfl, hk2⟩
  replace HK := hide (HK.out.trans' hk2)
  clear hk2 HT
  go_wp2_with fail
  go_ret
  exact ⟨rfl, HK.out⟩

/-- what Seen says of a session that is known -/
theorem seen_of {m : Tab} {id last : Int} {text : List UInt8} (h : mget m id = some (last, text)) (req : Int) (h1 : 1 ≤ req) (h2 : req ≤ 281474976710655) :
    seenF m id req = if req < last then ([], false, 18) else if req = last then (text, true, 0) else ([], false, 0) := by
  unfold seenF
  rw [h]
  simp only
  rw [if_neg (by omega)]
theorem keep_of {m : Tab} {id last : Int} {text : List UInt8} (h : mget m id = some (last, text)) (req : Int) (a : List UInt8) (h2 : req ≤ 281474976710655) (ha : a.length ≤ 400) :
    keepF m id req a = if req < 1 then (1, m) else if req ≤ last then (18, m) else (0, mput m id (req, a)) := by
  unfold keepF
  by_cases h1 : req < 1
  · have : seenF m id req = ([], false, 1) := by simp [seenF, h, h1]
    rw [this, if_pos h1]
    simp
  · rw [seen_of h req (by omega) h2]
    by_cases h3 : req < last
    · simp [h1, h3, show req ≤ last from by omega]
    · by_cases h4 : req = last
      · simp [h4, show 1 ≤ last from by omega]
      · simp [h1, h3, h4, show ¬ req ≤ last from by omega, show ¬ 400 < a.length from by omega]

/-- the text of the i-th request -/
def nth (ss : List (List UInt8)) (i : Nat) : List UInt8 := ss.getD i []

set_option maxRecDepth 100000 in
set_option maxHeartbeats 1000000 in
theorem once_walk (W : World) (id : Int) (A1 : Option Addr) (ns : List Int) (c1 : Nat) (A2 : Option Addr) (ss : List (List UInt8)) (c2 : Nat)
    (h1 : Src W 1 A1 ns.length (Is ns)) (h2 : Src W 1 A2 ss.length (Ss ss)) (hl1 : ns.length ≤ 9223372036854775807) (hl2 : ss.length ≤ 9223372036854775807) (hss : ∀ s ∈ ss, s.length ≤ 9223372036854775807) :
    Calls Try.prog 3 #[.int .i64 id, .slice A1 ns.length c1, .slice A2 ss.length c2] W fun e w' => e = .returned (.bool true) ∧ Keeps (fun k => W.heap.size ≤ k) W w' := by
  have hid : 0 ≤ bits .and .i64 id 65535 ∧ bits .and .i64 id 65535 ≤ 65535 := and_le id 65535 (by decide)
  obtain ⟨hid1, hid2⟩ := hid
  go_enter Try.func3, Try.ntmps3
  go_wp2_with fail
  refine (head_sess W).mono ?_
  rintro e w0 ⟨rfl, hk0⟩
  by_cases hn : ns.length ≤ 30 ∧ ss.length ≤ 30
  · obtain ⟨hn1, hn2⟩ := hn
    go_wp2_with fail
    refine (new_sess w0).mono ?_
    rintro e w1 ⟨t, mb, rfl, hT, ht, hmb, hk⟩
    have HT := hide hT
    have HK := hide ((hk0.trans' hk).mono (G := fun k => W.heap.size ≤ k) (fun _ _ h => h.elim))
    have hs0 := hk0.size
    clear hT hk
    go_wp2_with fail
    generalize hI : (1 + bits BinOp.and IntKind.i64 id 65535) = I
    have HI := hide hI
    have hI1 : 1 ≤ I := by omega
    have hI2 : I ≤ 65536 := by omega
    clear hI
    refine (open_sess _ _ _ _ _ HT.out).mono ?_
    have ho : openF [] I = (0, [(I, (0, []))]) := by
      unfold openF
      rw [if_neg (by omega)]
      simp [mput, mget]
    rw [ho]
    rintro e w2 ⟨rfl, hT, hk2⟩
    replace HK := hide (HK.out.trans hk2 (fun i hi e => by omega))
    replace HT := hide hT
    clear hT hk2 ho
    go_wp2_with fail
    go_loopw [8, 9, 43] (fun a b i wr => ∃ k : Nat, k ≤ ns.length ∧ i = .int .i64 k ∧ ∃ (last : Int) (text : List UInt8), a = .int .i64 last ∧ b = .string (S text) ∧ ∃ m : Tab, Tb wr t mb m ∧ mget m I = some (last, text) ∧ 0 ≤ last ∧ last ≤ 31 ∧ Keeps (fun k => W.heap.size ≤ k) W wr) (fun _ _ i _ => ns.length - (intOf i).toNat)
    case atStart => exact ⟨0, by omega, rfl, 0, [], rfl, rfl, _, HT.out, by simp [mget], by omega, by omega, HK.out⟩
    case round =>
      obtain ⟨k, hk, rfl, last, text, rfl, rfl, m, hT, hm, hl0, hl3, hK⟩ := hrel
      clear HT HK
      have HT := hide hT
      have HK := hide hK
      have HM := hide hm
      clear hT hK hm
      by_cases hlt : k < ns.length
      · obtain ⟨ad, u, rfl, hu, hc⟩ := (h1.keepB (by decide) HK.out (fun k hk h => by omega)).at_ hlt
        simp only [Is, List.getElem?_map, Option.map_eq_some_iff] at hu
        obtain ⟨x, hx, rfl⟩ := hu
        clear hx
        have hq : 0 ≤ bits .and .i64 x 31 ∧ bits .and .i64 x 31 ≤ 31 := and_le x 31 (by decide)
        obtain ⟨hq1, hq2⟩ := hq
        go_upto_region 15 with fail
        generalize bits .and .i64 x 31 = q at *
        go_upto_if 53 with fail
        go_cut [12] (fun s12 wx => s12 = .string (S (nth ss k)) ∧ wx = wr)
        case first =>
          by_cases hi : k < ss.length
          · obtain ⟨ad2, u2, rfl, hu2, hc2⟩ := (h2.keepB (by decide) HK.out (fun k hk h => by omega)).at_ hi
            simp only [Ss, List.getElem?_map, Option.map_eq_some_iff] at hu2
            obtain ⟨s, hs, rfl⟩ := hu2
            have e : nth ss k = s := by unfold nth; rw [List.getD_eq_getElem?_getD, hs]; rfl
            have E := hide e
            clear hs e
            go_wp2_with fail
            go_meet
            case rel => exact ⟨by rw [E.out], rfl⟩
          · have e : nth ss k = [] := by unfold nth; rw [List.getD_eq_getElem?_getD, List.getElem?_eq_none (by omega)]; rfl
            have E := hide e
            clear e
            go_wp2_with fail
            go_meet
            case rel => exact ⟨by rw [E.out]; rfl, rfl⟩
        case rest =>
          obtain ⟨rfl, rfl⟩ := hcut
          have hsl : (nth ss k).length ≤ 9223372036854775807 := by
            unfold nth
            rw [List.getD_eq_getElem?_getD]
            cases hs : ss[k]? with
            | none => simp
            | some s => exact hss s (List.mem_of_getElem? hs)
          generalize nth ss k = s at *
          by_cases hlen : 400 < s.length
          · go_wp2_with fail
            go_ret
            exact ⟨rfl, HK.out⟩
          · go_wp2_with fail
            refine (keep_sess _ _ _ _ _ _ s hsl HT.out).mono ?_
            have hcase : (q < 1 ∧ keepF m I q s = (1, m)) ∨ (1 ≤ q ∧ q ≤ last ∧ keepF m I q s = (18, m)) ∨ (1 ≤ q ∧ last < q ∧ keepF m I q s = (0, mput m I (q, s))) := by
              rw [keep_of HM.out q s (by omega) (by omega)]
              by_cases h1 : q < 1
              · exact .inl ⟨h1, by rw [if_pos h1]⟩
              · by_cases h2 : q ≤ last
                · exact .inr (.inl ⟨by omega, h2, by rw [if_neg h1, if_pos h2]⟩)
                · exact .inr (.inr ⟨by omega, by omega, by rw [if_neg h1, if_neg h2]⟩)
            generalize keepF m I q s = R at *
            obtain ⟨E, M⟩ := R
            have HC := hide hcase
            clear hcase
            rintro e w3 ⟨rfl, hT3, hk3⟩
            have HT3 := hide hT3
            have HK3 := hide (HK.out.trans hk3 (fun i hi e => by omega))
            clear hT3 hk3
            go_upto_block 2 with fail
            go_cut [8, 9] (fun a b wx => ∃ (last : Int) (text : List UInt8), a = .int .i64 last ∧ b = .string (S text) ∧ wx = w3 ∧ mget M I = some (last, text) ∧ 0 ≤ last ∧ last ≤ 31)
            case first =>
              rcases HC.out with ⟨c1, c2⟩ | ⟨c1, c3, c2⟩ | ⟨c1, c3, c2⟩
              · simp only [Prod.mk.injEq] at c2
                obtain ⟨rfl, rfl⟩ := c2
                go_wp2_with fail
                go_meet
                case rel => exact ⟨last, text, rfl, rfl, rfl, HM.out, hl0, hl3⟩
              · simp only [Prod.mk.injEq] at c2
                obtain ⟨rfl, rfl⟩ := c2
                go_wp2_with fail
                go_meet
                case rel => exact ⟨last, text, rfl, rfl, rfl, HM.out, hl0, hl3⟩
              · simp only [Prod.mk.injEq] at c2
                obtain ⟨rfl, rfl⟩ := c2
                go_wp2_with fail
                go_meet
                case rel => exact ⟨q, s, rfl, rfl, rfl, by rw [mget_mput, if_pos rfl], by omega, hq2⟩
            case rest =>
              obtain ⟨last2, text2, rfl, rfl, rfl, hm2, hb0, hb1⟩ := hcut
              have HM2 := hide hm2
              clear hm2
              by_cases hz : last2 = 0
              · subst hz
                go_wp2_with fail
                go_roundw
                case rel => exact ⟨k + 1, by omega, by go_num, 0, text2, rfl, rfl, M, HT3.out, HM2.out, by omega, by omega, HK3.out⟩
                case measure => simp [intOf]; omega
              · have hz2 : (last2 == 0) = false := by simpa using hz
                have s1 : seenF M I last2 = (text2, true, 0) := by
                  rw [seen_of HM2.out last2 (by omega) (by omega), if_neg (by omega), if_pos rfl]
                have s2 : ∃ e, seenF M I (last2 - 1) = ([], false, e) ∧ (e == 0) = false := by
                  by_cases h0 : last2 = 1
                  · subst h0
                    exact ⟨1, by simp [seenF, HM2.out], rfl⟩
                  · exact ⟨18, by rw [seen_of HM2.out _ (by omega) (by omega), if_pos (by omega)], rfl⟩
                have s3 : seenF M I (last2 + 1) = ([], false, 0) := by
                  rw [seen_of HM2.out _ (by omega) (by omega), if_neg (by omega), if_neg (by omega)]
                obtain ⟨e2, s2, hne⟩ := s2
                have c1 := seen_sess _ _ _ _ I last2 HT3.out
                rw [s1] at c1
                clear s1
                go_wp2_with fail
                refine c1.mono ?_
                rintro e w4 ⟨rfl, hk4⟩
                have HT4 := hide (HT3.out.kept hk4 (fun h => h) (fun h => h))
                have HK4 := hide (HK3.out.trans hk4 (fun i hi e => e.elim))
                clear hk4 c1
                have c2 := seen_sess _ _ _ _ I (last2 - 1) HT4.out
                rw [s2] at c2
                clear s2
                go_wp2_with fail
                refine c2.mono ?_
                rintro e w5 ⟨rfl, hk4⟩
                have HT5 := hide (HT4.out.kept hk4 (fun h => h) (fun h => h))
                have HK5 := hide (HK4.out.trans hk4 (fun i hi e => e.elim))
                clear hk4 c2
                have c3 := seen_sess _ _ _ _ I (last2 + 1) HT5.out
                rw [s3] at c3
                clear s3
                go_wp2_with fail
                refine c3.mono ?_
                rintro e w6 ⟨rfl, hk4⟩
                have HT6 := hide (HT5.out.kept hk4 (fun h => h) (fun h => h))
                have HK6 := hide (HK5.out.trans hk4 (fun i hi e => e.elim))
                clear hk4 c3
                go_wp2_with fail
                go_roundw
                case rel => exact ⟨k + 1, by omega, by go_num, last2, text2, rfl, rfl, M, HT6.out, HM2.out, by omega, by omega, HK6.out⟩
                case measure => simp [intOf]; omega
      · go_wp2_with fail
        go_ret
        exact ⟨rfl, HK.out⟩
  · by_cases hn1 : 30 < ns.length
    · go_wp2_with fail
      go_ret
      exact ⟨rfl, hk0.mono (fun _ _ h => h.elim)⟩
    · have hn2 : 30 < ss.length := by omega
      go_wp2_with fail
      go_ret
      exact ⟨rfl, hk0.mono (fun _ _ h => h.elim)⟩

end Go.Proofs.Ytinpnnfeggjbeaa
