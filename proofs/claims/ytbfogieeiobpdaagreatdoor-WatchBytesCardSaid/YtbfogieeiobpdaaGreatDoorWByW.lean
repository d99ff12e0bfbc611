/- The law WatchBytes, walked. No condition. -/
import Derived.Test.YtbfogieeiobpdaaGreatDoorWDo3
import Derived.Test.YtbfogieeiobpdaaGreatDoorWGood
import Derived.Test.YtbfogieeiobpdaaGreatDoorWAll
import Derived.Test.YtbfogieeiobpdaaGreatDoorBookRd
import Derived.Deep.RegionHeld3
set_option linter.unusedVariables false
set_option linter.unusedSimpArgs false
namespace Go.Proofs.YtbfogieeiobpdaaGreatDoor
open Go.RowKit

theorem fewW_out {xs : List ActW} (h : fewW xs = true) : (∀ a ∈ xs, a.path.length ≤ 12) ∧ xs.length ≤ 60 := by
  simp only [fewW, Bool.and_eq_true, List.all_eq_true, decide_eq_true_eq] at h
  exact h

theorem layW_le (B : BookT) : (layW B).length ≤ 18 + 65600 * B.ws.length + 65600 * B.es.length + 12 * B.nos.length := by
  have h1 := flat_le watB 65600 watB_le B.ws
  have h2 := flat_le evB 65600 evB_le B.es
  have h3 := flat_le nosB 12 (fun p => by rw [nosB, nums_length]; simp) (normZ B.nos)
  rw [normZ_length] at h3
  unfold layW
  simp only [List.length_append, nums_length, List.length_cons, List.length_nil]
  omega

set_option maxRecDepth 100000 in
set_option maxHeartbeats 16000000 in
theorem wbytes_walk (W : World) (hG : GL W) (A0 A1 : Option Addr) (acts more : List ActW) (c0 c1 : Nat) (cut : Int) (hs : ActsSrc W A0 acts) (hl : acts.length ≤ 9223372036854775807) (hs2 : ActsSrc W A1 more) (hl2 : more.length ≤ 9223372036854775807) :
    Calls Tryz.prog 3 #[.slice A0 acts.length c0, .slice A1 more.length c1, .int .i64 cut] W fun e w' => e = .returned (.bool true) ∧ Keeps (fun _ => False) W w' := by
  have HSRC : Hid (∀ {w : World} {L : List Asn}, Sat W w L → oldA W ∈ L → ActsSrc w A0 acts) := fun S hm => hs.of S hm
  have HSRC2 : Hid (∀ {w : World} {L : List Asn}, Sat W w L → oldA W ∈ L → ActsSrc w A1 more) := fun S hm => hs2.of S hm
  have HS0 := hide hs
  have HS2 := hide hs2
  have HFEW := hide (fun h => fewW_out (xs := acts) h)
  have HFEW2 := hide (fun h => fewW_out (xs := more) h)
  have HF : Hid (∀ w, ActsSrc w A0 acts → Calls Tryz.prog 10 #[.slice A0 acts.length c0] w fun e w' => e = .returned (.bool (fewW acts)) ∧ Keeps (fun _ => False) w w') := fun w h => few_wacts w A0 c0 acts h hl
  have HF2 : Hid (∀ w, ActsSrc w A1 more → Calls Tryz.prog 10 #[.slice A1 more.length c1] w fun e w' => e = .returned (.bool (fewW more)) ∧ Keeps (fun _ => False) w w') := fun w h => few_wacts w A1 c1 more h hl2
  have HGL : Hid (GL W) := hG
  generalize fewW acts = fw at *
  generalize fewW more = fw2 at *
  clear hs hs2
  go_enter Tryz.func3, Tryz.ntmps3
  go_wp2_with fail
  refine (head_watch (Sat.start W) hG (by simp)).mono ?_
  rintro e w0 ⟨rfl, S0⟩
  clear hG
  go_wp2_with fail
  refine (HF.out _ (HSRC.out S0 (by simp))).mono ?_
  rintro e w1 ⟨rfl, hk1⟩
  have S1 := S0.keep hk1
  clear S0 hk1 HF
  cases fw
  · have HK := hide S1.keep_all
    clear S1
    go_wp2_with fail
    go_ret
    exact ⟨rfl, HK.out⟩
  obtain ⟨hall, h60⟩ := HFEW.out rfl
  have HALL := hide hall
  clear hall HFEW
  go_wp2_with fail
  refine (HF2.out _ (HSRC2.out S1 (by simp))).mono ?_
  rintro e w1b ⟨rfl, hk1⟩
  have S1b := S1.keep hk1
  clear S1 hk1 HF2
  cases fw2
  · have HK := hide S1b.keep_all
    clear S1b
    go_wp2_with fail
    go_ret
    exact ⟨rfl, HK.out⟩
  obtain ⟨hall2, h602⟩ := HFEW2.out rfl
  have HALL2 := hide hall2
  clear hall2 HFEW2
  go_wp2_with fail
  refine (new_book S1b).mono ?_
  rintro e w2 ⟨t, rfl, S2⟩
  have S3 := model_new S2
  go_upto_region 7 with fail
  generalize w2.alloc (.cells #[.slice none 0 0, .slice none 0 0, .map none] 32) = w3 at *
  generalize w2.heap.size = mb at *
  have S4 := S3.p1
  clear S1b S2 S3
  go_wp2_with fail
  go_loopw [37] (fun i wr => ∃ k : Nat, k ≤ acts.length ∧ i = .int .i64 k ∧ ∃ B, InvW B k ∧ InvG B k ∧ Sat W wr (bookA t B :: modelA mb B :: [oldA W])) (fun i _ => acts.length - (RowKit.intOf i).toNat)
  case atStart => exact ⟨0, by omega, rfl, _, InvW.nil, InvG.nil, S4⟩
  case round =>
    obtain ⟨k, hk, rfl, B, hinv, hgo, S5⟩ := hrel
    clear S4
    by_cases hlt : k < acts.length
    · have hk0 : (0 : Int) ≤ (k : Int) := by omega
      have hk1 : (k : Int) < (acts.length : Int) := by omega
      obtain ⟨ad, x, rfl, hx, d0, d1, d2, d3, d4, d5⟩ := wact_at (HSRC.out S5 (by simp)).1 hlt
      have hmem := List.mem_of_getElem? hx
      have hps := HS0.out.2 x hmem
      have hp12 := HALL.out x hmem
      have hmp := madeP_le x.path
      have HI2 := hide (do_inv hinv x ((k : Int) + 1))
      have HG2 := hide (doW_good hgo hinv (by omega) x (by omega) ((k : Int) + 1) ⟨by omega, by omega⟩)
      have HDO : Hid (∀ (w' : World) (L' : List Asn), Sat W w' (bookA t B :: modelA mb B :: L') → oldA W ∈ L' → Calls Tryz.prog 12 #[ptr t, ptr mb, actWV x, .int .i64 ((k : Int) + 1)] w' fun e w2 => e = .returned (.bool true) ∧ Sat W w2 (bookA t (doW B x ((k : Int) + 1)) :: modelA mb (doW B x ((k : Int) + 1)) :: L')) := hide fun w' L' S' h => do_watch S' HGL.out h x hps hp12 hinv (by omega) _
      clear hps hx hmem hmp hinv hgo
      generalize doW B x ((k : Int) + 1) = B2 at *
      obtain ⟨a0, a1, a2, a3, a4, a5, a6, a7⟩ := x
      simp only at d0 d1 d2 d3 d4 d5
      go_upto_region 10 with fail
      have S6 := S5.box #[.int .i64 a0, .int .i64 a1, .int .i64 a2, .slice a3 a5.length a4, .bool a6, .bool a7] 35 rfl
      generalize wr.alloc (.cells #[.int .i64 a0, .int .i64 a1, .int .i64 a2, .slice a3 a5.length a4, .bool a6, .bool a7] 35) = w6 at *
      generalize wr.heap.size = xb at *
      have x0 := S6.cell 0 _ rfl
      have x1 := S6.cell 1 _ rfl
      have x2 := S6.cell 2 _ rfl
      have x3 := S6.cell 3 _ rfl
      have x4 := S6.cell 4 _ rfl
      have x5 := S6.cell 5 _ rfl
      clear S5 d0 d1 d2 d3 d4 d5
      go_wp2_with fail
      refine (HDO.out _ _ S6.b2 (by simp)).mono ?_
      rintro e w7 ⟨rfl, S7⟩
      have S9 := S7.p2.drop
      clear S6 S7 x0 x1 x2 x3 x4 x5
      go_wp2_with fail
      go_roundw
      case rel => exact ⟨k + 1, by omega, by go_num, B2, HI2.out, HG2.out, S9⟩
      case measure => simp [RowKit.intOf]; omega
    · obtain rfl : k = acts.length := by omega
      have hes := hinv.es
      have hws := hinv.ws
      obtain ⟨wv, S6⟩ := S5.p1.modelOpen
      obtain ⟨ev, nv, S7⟩ := S6.mnotesOpen
      obtain ⟨A3, c3, rfl, -⟩ := S7.p1.row.form
      have m1 := S7.cell 1 _ rfl
      clear S5 S6
      by_cases hbig : 1000 < B.es.length
      · have HK := hide S7.drop.drop.drop.drop.drop.keep_all
        clear S7 hinv hgo
        go_wp2_with fail
        go_ret
        exact ⟨rfl, HK.out⟩
      have S8 : Sat W wr (bookA t B :: modelA mb B :: [oldA W]) := (Sat.modelShut (Sat.mnotesShut S7)).p1
      have hgd := hgo.good hinv (by omega) (by omega)
      have hnl := hgd.nl
      have HUL : Hid ((⟨B.ws, B.es, normZ B.nos⟩ : BookT).es.length ≤ 1100 ∧ (⟨B.ws, B.es, normZ B.nos⟩ : BookT).ws.length ≤ 50 ∧ (⟨B.ws, B.es, normZ B.nos⟩ : BookT).nos.length ≤ 1100) := hide ⟨by show B.es.length ≤ 1100; omega, by show B.ws.length ≤ 50; omega, by show (normZ B.nos).length ≤ 1100; rw [normZ_length]; omega⟩
      have HEQ : Hid (EqB B ⟨B.ws, B.es, normZ B.nos⟩) := hide ⟨rfl, rfl, fun k => mget_normZ hgo.nd k⟩
      have HLU : Hid (layW ⟨B.ws, B.es, normZ B.nos⟩ = layW B) := hide (HEQ.out.layW hgo.nd (by show (keys (normZ B.nos)).Nodup; rw [keys_normZ]; exact (sortZ_perm _).nodup_iff.2 hgo.nd))
      have HR0 : Hid (readB (layW B, false) = (⟨B.ws, B.es, normZ B.nos⟩, ([], false))) := hide (by
        have h := readB_tail hgd []
        rwa [List.append_nil] at h)
      have HRC : Hid (∀ r, r < (layW B).length → readB ((layW B).take r, false) = (⟨[], [], []⟩, ((readB ((layW B).take r, false)).2.1, true))) := hide fun r hr => by
        have h := readB_cut hgd r hr
        exact Prod.ext (readB_fail _ h) (Prod.ext rfl h)
      have hTp := layW_pos B
      have hTl := layW_le B
      have hTl2 : (layW B).length ≤ 9223372036854775807 := by omega
      have HINV := hide hinv
      have hlay := lay_book S8.bytesNil (by omega) (by omega) (by omega) (by simp)
      rw [List.nil_append] at hlay
      clear hgd hnl hgo hinv hTl
      generalize layW B = TB at *
      generalize (⟨B.ws, B.es, normZ B.nos⟩ : BookT) = U at *
      go_wp2_with fail
      refine hlay.mono ?_
      rintro e w6 ⟨v6, rfl, S9⟩
      obtain ⟨B6, n6, cb6, rfl, hsrc⟩ := S9.bytesForm
      have hconv := run_ofBytes (P := Tryz.prog) (dst := 9) Tryz.underlying37 Tryz.underlying5 Tryz.underlying9 hsrc cb6
      have S10 : Sat W w6 (bookA t B :: modelA mb B :: [oldA W]) := S9.drop
      clear S7 S8 S9 hsrc hlay m1
      go_wp2_with fail
      refine (s_read S10 TB hTl2).mono ?_
      rintro e w7 ⟨r, rfl, S11⟩
      have hrd := read_book S11 HGL.out (by simp)
      rw [HR0.out] at hrd
      clear S10 hconv
      go_wp2_with fail
      refine hrd.mono ?_
      rintro e w8 ⟨u, rfl, S12⟩
      have e0 : rdone ([], false) = 0 := rfl
      clear S11 hrd
      go_wp2_with fail
      refine (s_rdone S12.p1).mono ?_
      rintro e w9 ⟨rfl, S13⟩
      have S14 : Sat W w9 (bookA u U :: modelA mb B :: bookA t B :: [oldA W]) := S13.drop.p1.b2
      have hsame := same_watch2 S14 HEQ.out.ws.symm HEQ.out.es.symm (by have := HUL.out; omega) (by have := HUL.out; omega)
      clear S12 S13
      go_wp2_with fail
      refine hsame.mono ?_
      rintro e w10 ⟨rfl, S15⟩
      have hlay2 := lay_book S15.bytesNil HUL.out.1 HUL.out.2.1 HUL.out.2.2 (by simp)
      rw [HLU.out, List.nil_append] at hlay2
      clear S14 hsame
      go_wp2_with fail
      refine hlay2.mono ?_
      rintro e w11 ⟨v11, rfl, S16⟩
      obtain ⟨B7, n7, cb7, rfl, hsrc7⟩ := S16.bytesForm
      have hconv2 := run_ofBytes (P := Tryz.prog) (dst := 9) Tryz.underlying37 Tryz.underlying5 Tryz.underlying9 hsrc7 cb7
      have S17 : Sat W w11 (bookA u U :: modelA mb B :: bookA t B :: [oldA W]) := S16.drop
      clear S15 S16 hsrc7 hlay2
      have hK : 0 ≤ bits .and .i64 cut 65535 ∧ bits .and .i64 cut 65535 ≤ 65535 := and_le cut 65535 (by decide)
      have hK1 := hK.1
      obtain ⟨q, hq⟩ : ∃ q : Nat, (bits .and .i64 cut 65535).tmod (TB.length : Int) = (q : Int) := ⟨(bits .and .i64 cut 65535 % (TB.length : Int)).toNat, by
        rw [Int.tmod_eq_emod_of_nonneg hK.1]
        have := Int.emod_nonneg (bits .and .i64 cut 65535) (b := (TB.length : Int)) (by omega)
        omega⟩
      have hq2 : q < TB.length := by
        have := Int.emod_lt_of_pos (bits .and .i64 cut 65535) (b := (TB.length : Int)) (by omega)
        rw [← Int.tmod_eq_emod_of_nonneg hK.1, hq] at this
        omega
      have hext : (S TB).extract 0 q = S (TB.take q) := by rw [S_extract]; rfl
      have hcl : (TB.take q).length ≤ 9223372036854775807 := by have := List.length_take_le q TB; omega
      have HRQ := hide (HRC.out q hq2)
      go_wp2_with fail
      refine (s_read S17 (TB.take q) hcl).mono ?_
      rintro e w12 ⟨r2, rfl, S18⟩
      clear hq hK hK1 hext hcl S17 hconv2
      have hrd2 := read_book S18 HGL.out (by simp)
      rw [HRQ.out] at hrd2
      generalize (readB (TB.take q, false)).2.1 = YL at *
      go_wp2_with fail
      refine hrd2.mono ?_
      rintro e w13 ⟨bv, rfl, S19⟩
      clear S18 hrd2
      go_wp2_with fail
      refine (s_rok S19.p1).mono ?_
      rintro e w14 ⟨rfl, S20⟩
      clear S19
      go_wp2_with fail
      refine (watches_book S20.p1 (by simp)).mono ?_
      rintro e w15 ⟨v15, rfl, S21⟩
      obtain ⟨A15, c15, rfl, -⟩ := S21.row.form
      have S22 : Sat W w15 (bookA t B :: bookA u U :: modelA mb B :: [oldA W]) := S21.drop.drop.drop.p2
      clear S20 S21
      go_wp2_with fail
      refine (clone_book S22 (by omega) (by omega)).mono ?_
      rintro e w16 ⟨d, nosD, rfl, hnosD, S23⟩
      have HID : Hid (InvW ⟨B.ws, B.es, nosD⟩ acts.length) := hide (EqB.invW (B := B) (C := ⟨B.ws, B.es, nosD⟩) ⟨rfl, rfl, hnosD⟩ HINV.out)
      clear S22 hnosD
      generalize (⟨B.ws, B.es, nosD⟩ : BookT) = D at *
      have S24 := model_new S23
      go_upto_region 25 with fail
      generalize w16.alloc (.cells #[.slice none 0 0, .slice none 0 0, .map none] 32) = w17 at *
      generalize w16.heap.size = sp at *
      have S25 : Sat W w17 (bookA d D :: modelA sp ⟨[], [], []⟩ :: bookA t B :: bookA u U :: modelA mb B :: [oldA W]) := S24.p1
      clear S23 S24
      go_wp2_with fail
      go_loopw [102] (fun i wr => ∃ k : Nat, k ≤ more.length ∧ i = .int .i64 k ∧ ∃ D' P', InvW D' (acts.length + k) ∧ InvW P' k ∧ Sat W wr (bookA d D' :: modelA sp P' :: bookA t B :: bookA u U :: modelA mb B :: [oldA W])) (fun i _ => more.length - (RowKit.intOf i).toNat)
      case atStart => exact ⟨0, by omega, rfl, D, _, HID.out, InvW.nil, S25⟩
      case round =>
        obtain ⟨k2, hk2, rfl, D', P', hid, hip, S26⟩ := hrel
        clear S25
        by_cases hlt2 : k2 < more.length
        · have hk0 : (0 : Int) ≤ (k2 : Int) := by omega
          have hk1 : (k2 : Int) < (more.length : Int) := by omega
          obtain ⟨ad, x, rfl, hx, d0, d1, d2, d3, d4, d5⟩ := wact_at (HSRC2.out S26 (by simp)).1 hlt2
          have hmem := List.mem_of_getElem? hx
          have hps := HS2.out.2 x hmem
          have hp12 := HALL2.out x hmem
          have HI2 := hide (do_inv hid x (100 + (k2 : Int)))
          have HP2 := hide (do_inv hip x (100 + (k2 : Int)))
          have HDO : Hid (∀ (w' : World) (L' : List Asn), Sat W w' (bookA d D' :: modelA sp P' :: L') → oldA W ∈ L' → Calls Tryz.prog 12 #[ptr d, ptr sp, actWV x, .int .i64 (100 + (k2 : Int))] w' fun e w2 => ∃ bb, e = .returned (.bool bb) ∧ Sat W w2 (bookA d (doW D' x (100 + (k2 : Int))) :: modelA sp (doW P' x (100 + (k2 : Int))) :: L')) := hide fun w' L' S' h => do_watch3 S' HGL.out h x hps hp12 hid (InvW.mono hip (by omega)) (by omega) _
          clear hps hx hmem hid hip
          generalize doW D' x (100 + (k2 : Int)) = D2 at *
          generalize doW P' x (100 + (k2 : Int)) = P2 at *
          obtain ⟨a0, a1, a2, a3, a4, a5, a6, a7⟩ := x
          simp only at d0 d1 d2 d3 d4 d5
          go_upto_region 28 with fail
          have S27 := S26.box #[.int .i64 a0, .int .i64 a1, .int .i64 a2, .slice a3 a5.length a4, .bool a6, .bool a7] 35 rfl
          generalize wr.alloc (.cells #[.int .i64 a0, .int .i64 a1, .int .i64 a2, .slice a3 a5.length a4, .bool a6, .bool a7] 35) = w26 at *
          generalize wr.heap.size = xb at *
          have hwr : IntKind.i64.wrap (100 + (k2 : Int)) = 100 + (k2 : Int) := IntWalk.i64_in _ ⟨by omega, by omega⟩
          have x0 := S27.cell 0 _ rfl
          have x1 := S27.cell 1 _ rfl
          have x2 := S27.cell 2 _ rfl
          have x3 := S27.cell 3 _ rfl
          have x4 := S27.cell 4 _ rfl
          have x5 := S27.cell 5 _ rfl
          clear S26 d0 d1 d2 d3 d4 d5
          go_wp2_with fail
          refine (HDO.out _ _ S27.b2 (by simp)).mono ?_
          rintro e w27 ⟨bb, rfl, S28⟩
          have S29 := S28.p2.drop
          clear S27 S28 x0 x1 x2 x3 x4 x5 HDO
          go_wp2_with fail
          go_roundw
          case rel => exact ⟨k2 + 1, by omega, by go_num, D2, P2, HI2.out, HP2.out, S29⟩
          case measure => simp [RowKit.intOf]; omega
        · obtain rfl : k2 = more.length := by omega
          have S27 : Sat W wr (bookA t B :: modelA mb B :: bookA u U :: [oldA W]) := S26.drop.drop.p2.p1
          clear S26 hid hip
          go_wp2_with fail
          refine (same_watch S27 (by omega) (by omega)).mono ?_
          rintro e w28 ⟨rfl, S28⟩
          have S29 : Sat W w28 (bookA u U :: modelA mb B :: [oldA W]) := S28.drop.p1
          have HIU : Hid (InvW U acts.length) := hide (HEQ.out.invW HINV.out)
          clear S27 S28 HUL HLU HR0 HRC
          go_wp2_with fail
          go_loopw [120] (fun i wr => ∃ k : Nat, k ≤ more.length ∧ i = .int .i64 k ∧ ∃ B' U', EqB B' U' ∧ InvW B' (acts.length + k) ∧ Sat W wr (bookA u U' :: modelA mb B' :: [oldA W])) (fun i _ => more.length - (RowKit.intOf i).toNat)
          case atStart => exact ⟨0, by omega, rfl, B, U, HEQ.out, HINV.out, S29⟩
          case round =>
            obtain ⟨k3, hk3, rfl, B', U', heq, hib, S30⟩ := hrel
            clear S29
            by_cases hlt3 : k3 < more.length
            · have hk0 : (0 : Int) ≤ (k3 : Int) := by omega
              have hk1 : (k3 : Int) < (more.length : Int) := by omega
              obtain ⟨ad, x, rfl, hx, d0, d1, d2, d3, d4, d5⟩ := wact_at (HSRC2.out S30 (by simp)).1 hlt3
              have hmem := List.mem_of_getElem? hx
              have hps := HS2.out.2 x hmem
              have hp12 := HALL2.out x hmem
              have hi2 := do_inv hib x (100 + (k3 : Int))
              have hes2 := hi2.es
              have hws2 := hi2.ws
              have HI2 := hide hi2
              have HE2 := hide (heq.doW x (100 + (k3 : Int)))
              have HDO : Hid (∀ (w' : World) (L' : List Asn), Sat W w' (bookA u U' :: modelA mb B' :: L') → oldA W ∈ L' → Calls Tryz.prog 12 #[ptr u, ptr mb, actWV x, .int .i64 (100 + (k3 : Int))] w' fun e w2 => e = .returned (.bool true) ∧ Sat W w2 (bookA u (doW U' x (100 + (k3 : Int))) :: modelA mb (doW B' x (100 + (k3 : Int))) :: L')) := hide fun w' L' S' h => do_watch2 S' HGL.out h x hps hp12 (heq.invW hib) hib heq.ws.symm (by omega) _
              clear hps hx hmem hib heq hi2
              generalize doW B' x (100 + (k3 : Int)) = B2 at *
              generalize doW U' x (100 + (k3 : Int)) = U2 at *
              have HSM : Hid (∀ (w' : World) (L' : List Asn), Sat W w' (bookA u U2 :: modelA mb B2 :: L') → Calls Tryz.prog 17 #[ptr u, ptr mb] w' fun e w2 => e = .returned (.bool true) ∧ Sat W w2 (bookA u U2 :: modelA mb B2 :: L')) := hide fun w' L' S' => same_watch2 S' HE2.out.ws.symm HE2.out.es.symm (by rw [HE2.out.es]; omega) (by rw [HE2.out.ws]; omega)
              obtain ⟨a0, a1, a2, a3, a4, a5, a6, a7⟩ := x
              simp only at d0 d1 d2 d3 d4 d5
              go_upto_region 35 with fail
              have S31 := S30.box #[.int .i64 a0, .int .i64 a1, .int .i64 a2, .slice a3 a5.length a4, .bool a6, .bool a7] 35 rfl
              generalize wr.alloc (.cells #[.int .i64 a0, .int .i64 a1, .int .i64 a2, .slice a3 a5.length a4, .bool a6, .bool a7] 35) = w30 at *
              generalize wr.heap.size = xb at *
              have hwr : IntKind.i64.wrap (100 + (k3 : Int)) = 100 + (k3 : Int) := IntWalk.i64_in _ ⟨by omega, by omega⟩
              have x0 := S31.cell 0 _ rfl
              have x1 := S31.cell 1 _ rfl
              have x2 := S31.cell 2 _ rfl
              have x3 := S31.cell 3 _ rfl
              have x4 := S31.cell 4 _ rfl
              have x5 := S31.cell 5 _ rfl
              clear S30 d0 d1 d2 d3 d4 d5
              go_wp2_with fail
              refine (HDO.out _ _ S31.b2 (by simp)).mono ?_
              rintro e w31 ⟨rfl, S32⟩
              have S33 := S32.p2.drop
              clear S31 S32 x0 x1 x2 x3 x4 x5 HDO
              go_wp2_with fail
              refine (HSM.out _ _ S33).mono ?_
              rintro e w32 ⟨rfl, S34⟩
              clear S33 HSM
              go_wp2_with fail
              go_roundw
              case rel => exact ⟨k3 + 1, by omega, by go_num, B2, U2, HE2.out, HI2.out, S34⟩
              case measure => simp [RowKit.intOf]; omega
            · obtain rfl : k3 = more.length := by omega
              have HK := hide S30.drop.drop.keep_all
              clear S30 heq hib
              go_wp2_with fail
              go_ret
              exact ⟨rfl, HK.out⟩
end Go.Proofs.YtbfogieeiobpdaaGreatDoor
