/- The law SessBytes, walked. No condition. -/
import Derived.Test.YtcnehacblodiaaaSessActs
import Derived.Test.YtcnehacblodiaaaCutT
import Derived.Test.YtcnehacblodiaaaClone
import Derived.Test.YtcnehacblodiaaaSessRd
set_option linter.unusedVariables false
namespace Go.Proofs.Ytcnehacblodiaaa
open Go.RowKit

theorem few_eq {W w : World} {g : World} {L : List Asn} (A : Option Addr) (xs : List Act) (c : Nat) (h0 : Src W 4 A xs.length (xs.flatMap actC)) (S : Sat W w L) (hm : oldA W ∈ L) (hl : xs.length ≤ 9223372036854775807) (hg : ∀ a ∈ xs, a.2.2.2.length ≤ 9223372036854775807) :
    Calls Try.prog 13 #[.slice A xs.length c] w fun e w' => e = .returned (.bool (fewF xs)) ∧ Sat W w' L := by
  refine (few_acts W w A xs c h0 (S.keepsOf hm) hl hg).mono ?_
  rintro e w' ⟨rfl, hk⟩
  exact ⟨rfl, S.keep hk⟩
/-- an act of both, in step or not -/
theorem s_any {g w : World} {L : List Asn} {t mb mp : Nat} {A : Option Addr} {cap : Nat} {l m : Tab} (S : Sat g w (mboxA mp l A cap :: mrowA l A cap :: boxA t mb :: tabA mb m :: L)) (hl : l.length ≤ 16) (ak id req : Int) (ans : List UInt8) (ha : ans.length ≤ 9223372036854775807) :
    Calls Try.prog 14 #[ptr mp, ptr t, .agg #[.int .i64 ak, .int .i64 id, .int .i64 req, .string (Go.Proofs.Ytcnehacblodiaaa.S ans)]] w fun e w' => ∃ b, e = .returned (.bool b) ∧ ∃ (l' m' : Tab) (A' : Option Addr) (cap' : Nat), l'.length ≤ 16 ∧ Sat g w' (mboxA mp l' A' cap' :: mrowA l' A' cap' :: boxA t mb :: tabA mb m' :: L) := by
  refine (s_do S hl ak id req ans ha).mono ?_
  rintro e w' ⟨kd, A', c', rfl, S'⟩
  exact ⟨_, rfl, _, _, _, _, doL_length l kd id req ans hl, S'⟩
theorem s_tread_eq {g w : World} {L : List Asn} {r : Nat} {x : RS} (S : Sat g w (rdA r x :: L)) {m : Tab} {y : RS} (hx : readT x = (m, y)) :
    Calls Try.prog 21 #[ptr r] w fun e w' => ∃ t mb, e = .returned (ptr t) ∧ Sat g w' (boxA t mb :: tabA mb m :: rdA r y :: L) := by
  have := s_tread S
  rw [hx] at this
  exact this

set_option maxRecDepth 100000 in
set_option maxHeartbeats 8000000 in
theorem sbytes_walk (W : World) (A0 : Option Addr) (xs : List Act) (c0 : Nat) (h0 : Src W 4 A0 xs.length (xs.flatMap actC)) (hl0 : xs.length ≤ 9223372036854775807) (hg0 : ∀ a ∈ xs, a.2.2.2.length ≤ 9223372036854775807)
    (A1 : Option Addr) (ys : List Act) (c1 : Nat) (h1 : Src W 4 A1 ys.length (ys.flatMap actC)) (hl1 : ys.length ≤ 9223372036854775807) (hg1 : ∀ a ∈ ys, a.2.2.2.length ≤ 9223372036854775807) (cut : Int) :
    Calls Try.prog 6 #[.slice A0 xs.length c0, .slice A1 ys.length c1, .int .i64 cut] W fun e w' => e = .returned (.bool true) ∧ Keeps (fun k => W.heap.size ≤ k) W w' := by
  have HG0 := hide hg0
  have HG1 := hide hg1
  have HF1 : Hid (∀ (w : World) (L : List Asn), Sat W w L → oldA W ∈ L → Calls Try.prog 13 #[.slice A1 ys.length c1] w fun e w' => e = .returned (.bool (fewF ys)) ∧ Sat W w' L) := fun w L S hm => few_eq (g := W) A1 ys c1 h1 S hm hl1 hg1
  clear hg0 hg1
  go_enter Try.func6, Try.ntmps6
  go_wp2_with fail
  refine (head_sess W).mono ?_
  rintro e w0 ⟨rfl, hk0⟩
  have S0 := (Sat.start W).keep hk0
  clear hk0
  go_wp2_with fail
  refine (few_eq (g := W) A0 xs c0 h0 S0 (by simp) hl0 HG0.out).mono ?_
  rintro e w1 ⟨rfl, S1⟩
  clear S0
  cases hfx : fewF xs
  · clear hfx
    go_wp2_with fail
    go_ret
    exact ⟨rfl, S1.keeps⟩
  clear hfx
  go_wp2_with fail
  refine (HF1.out _ _ S1 (by simp)).mono ?_
  rintro e w2 ⟨rfl, S2⟩
  clear S1
  cases hfy : fewF ys
  · clear hfy
    go_wp2_with fail
    go_ret
    exact ⟨rfl, S2.keeps⟩
  clear hfy
  go_wp2_with fail
  refine (s_new S2).mono ?_
  rintro e w3 ⟨t, mb, rfl, S3⟩
  go_wp2_with fail
  have S4 : Sat W (w3.alloc (.cells #[.slice none 0 0] 36)) (mboxA w3.heap.size [] none 0 :: mrowA [] none 0 :: boxA t mb :: tabA mb [] :: [oldA W]) := ((S3.box #[.slice none 0 0] 36 rfl).nilRow 54 3).p1
  clear S2 S3
  generalize w3.alloc (.cells #[.slice none 0 0] 36) = w4 at *
  generalize w3.heap.size = mp at *
  go_loopw [38] (fun i wr => ∃ k : Nat, k ≤ xs.length ∧ i = .int .i64 k ∧ ∃ (l m : Tab) (A' : Option Addr) (cap' : Nat), Sync l m ∧ Sat W wr (mboxA mp l A' cap' :: mrowA l A' cap' :: boxA t mb :: tabA mb m :: [oldA W])) (fun i _ => xs.length - (RowKit.intOf i).toNat)
  case atStart => exact ⟨0, by omega, rfl, [], [], none, 0, Sync.nil, S4⟩
  case round =>
    obtain ⟨k, hk, rfl, l, m, A, cap, hy, S5⟩ := hrel
    clear S4
    have HY := hide hy
    clear hy
    by_cases hlt : k < xs.length
    · obtain ⟨ad, a, rfl, hx, d0, d1, d2, d3⟩ := acts_at (h0.keepB (by decide) (S5.keepsOf (by simp)) (fun k hk h => by omega)) hlt
      have hga := HG0.out a (List.mem_of_getElem? hx)
      clear hx
      obtain ⟨ak, id, req, ans⟩ := a
      simp only at d0 d1 d2 d3 hga
      go_wp2_with fail
      have S6 := (S5.box #[.int .i64 ak, .int .i64 id, .int .i64 req, .string (Go.Proofs.Ytcnehacblodiaaa.S ans)] 38 rfl).b4
      refine (s_step S6 HY.out ak id req ans hga).mono ?_
      rintro e w6 ⟨rfl, l6, m6, A6, c6, hy6, S7⟩
      have HY6 := hide hy6
      clear hy6
      go_wp2_with fail
      go_roundw
      case rel => exact ⟨k + 1, by omega, by go_num, l6, m6, A6, c6, HY6.out, S7.p4.drop⟩
      case measure => simp [RowKit.intOf]; omega
    · obtain rfl : k = xs.length := by omega
      have hsz := HY.out.size
      have hlen := HY.out.mod.len
      have HLB := hide HY.out.lay
      go_wp2_with fail
      refine (s_lay ((S5.p3.p3).bytesNil) HY.out.ok (by omega) (by simp)).mono ?_
      rintro e w6 ⟨v6, rfl, S6⟩
      rw [HLB.out, List.nil_append] at S6
      have HTD : Hid (tabB l = nums [(l.length : Int)] ++ l.flatMap entB) := rfl
      have hTl := tabB_len l
      have HR0 : Hid (readT (tabB l, false) = (l, ([], false))) := by
        have h := readT_tail HY.out.mod []
        rw [List.append_nil] at h
        exact hide h
      have HRC : Hid (∀ r, r < (tabB l).length → readT ((tabB l).take r, false) = ([], ((readT ((tabB l).take r, false)).2.1, true))) := fun r hr => by
        have h := readT_cut HY.out.mod r hr
        have h' := readT_fail _ h
        exact Prod.ext h' (Prod.ext rfl h)
      have hTu : (tabB l).length ≤ 2000000 := by
        have := ents_le l
        unfold tabB
        rw [List.length_append, nums_length]
        simp only [List.length_cons, List.length_nil]
        omega
      generalize tabB l = TB at *
      obtain ⟨B6, n6, cb6, rfl, hsrc⟩ := S6.bytesForm
      have hconv := run_ofBytes (P := Try.prog) (dst := 9) Try.underlying49 Try.underlying5 Try.underlying9 hsrc cb6
      have S7 := S6.drop.p3.p3
      have m0 : w6.cell? ⟨mp, 0, none⟩ = some (.slice A l.length cap) := S7.cell 0 _ rfl
      clear S5 S6 hsrc
      go_wp2_with fail
      refine (s_num [(l.length : Int)] ((S7.bytesNil).box _ _ rfl) rfl (by simp) (by simp)).mono ?_
      rintro e w8 ⟨v8, rfl, S8⟩
      rw [List.nil_append] at S8
      have m0 : w8.cell? ⟨mp, 0, none⟩ = some (.slice A l.length cap) := S8.p1.cell 0 _ rfl
      clear hconv S7
      generalize hN : nums [(l.length : Int)] = N at *
      have hNl : N.length = 6 := by rw [← hN]; rfl
      clear hN
      go_wp2_with fail
      clear m0
      go_loopw [12, 62] (fun v i wr => ∃ k : Nat, k ≤ l.length ∧ i = .int .i64 k ∧ Sat W wr (bytesA v (N ++ (l.take k).flatMap entB) :: mboxA mp l A cap :: mrowA l A cap :: boxA t mb :: tabA mb m :: [oldA W])) (fun _ i _ => l.length - (RowKit.intOf i).toNat)
      case atStart => exact ⟨0, by omega, rfl, by simpa using S8⟩
      case round =>
        obtain ⟨k, hk, rfl, S9⟩ := hrel
        clear S8
        have hle := ents_le (l.take k)
        have hle2 : (l.take k).length ≤ k := List.length_take_le _ _
        by_cases hlt : k < l.length
        · obtain ⟨ad, p, rfl, hx, d0, d1, d2⟩ := rowE_at S9.p2.srcOf hlt
          have HT := hide (take_flat entB l k p hx)
          clear hx
          obtain ⟨pid, preq, pans⟩ := p
          simp only at d0 d1 d2
          generalize hLL : (l.take k).flatMap entB = LL at *
          have HLL := hide hLL
          clear hLL
          have hb1 : (N ++ LL).length ≤ 2000000 := by rw [List.length_append]; omega
          have hb2 : (N ++ LL ++ nums [pid]).length ≤ 2000006 := by rw [List.length_append, nums_length]; simp only [List.length_cons, List.length_nil]; omega
          have hb3 : (N ++ LL ++ nums [pid] ++ nums [preq]).length ≤ 2000012 := by rw [List.length_append, nums_length]; simp only [List.length_cons, List.length_nil]; omega
          clear hle hle2
          go_upto_region 17 with fail
          have S10 := (S9.box #[.int .i64 pid, .int .i64 preq, .string (Go.Proofs.Ytcnehacblodiaaa.S pans)] 54 rfl).p1
          generalize wr.alloc (.cells #[.int .i64 pid, .int .i64 preq, .string (Go.Proofs.Ytcnehacblodiaaa.S pans)] 54) = w10 at *
          generalize wr.heap.size = xb at *
          have e0 : w10.cell? ⟨xb, 0, none⟩ = some (.int .i64 pid) := S10.cell_of (t := 54) (cs := #[.int .i64 pid, .int .i64 preq, .string (Go.Proofs.Ytcnehacblodiaaa.S pans)]) (by simp) 0 _ rfl
          have e1 : w10.cell? ⟨xb, 1, none⟩ = some (.int .i64 preq) := S10.cell_of (t := 54) (cs := #[.int .i64 pid, .int .i64 preq, .string (Go.Proofs.Ytcnehacblodiaaa.S pans)]) (by simp) 1 _ rfl
          have e2 : w10.cell? ⟨xb, 2, none⟩ = some (.string (Go.Proofs.Ytcnehacblodiaaa.S pans)) := S10.cell_of (t := 54) (cs := #[.int .i64 pid, .int .i64 preq, .string (Go.Proofs.Ytcnehacblodiaaa.S pans)]) (by simp) 2 _ rfl
          clear S9 d0 d1 d2
          have HE : Hid (∀ (w' : World) (L' : List Asn), Sat W w' L' → cellsA xb 54 #[.int .i64 pid, .int .i64 preq, .string (Go.Proofs.Ytcnehacblodiaaa.S pans)] ∈ L' → w'.cell? ⟨xb, 0, none⟩ = some (.int .i64 pid) ∧ w'.cell? ⟨xb, 1, none⟩ = some (.int .i64 preq) ∧ w'.cell? ⟨xb, 2, none⟩ = some (.string (Go.Proofs.Ytcnehacblodiaaa.S pans))) := fun w' L' S' hm => ⟨S'.cell_of hm 0 _ rfl, S'.cell_of hm 1 _ rfl, S'.cell_of hm 2 _ rfl⟩
          go_region_held3 (fun w' => w'.cell? ⟨xb, 0, none⟩ = some (.int .i64 pid) ∧ w'.cell? ⟨xb, 1, none⟩ = some (.int .i64 preq) ∧ w'.cell? ⟨xb, 2, none⟩ = some (.string (Go.Proofs.Ytcnehacblodiaaa.S pans))) (first | (go_keep; done) | exact HE.out _ _ (Sat.keep S13 (by (repeat (first | exact Keeps.refl _ _ | refine Keeps.alloc ?_ _ | refine Keeps.drew ?_ | refine Keeps.drewN ?_ _)))) (by simp) | exact HE.out _ _ (Sat.keep S12 (by (repeat (first | exact Keeps.refl _ _ | refine Keeps.alloc ?_ _ | refine Keeps.drew ?_ | refine Keeps.drewN ?_ _)))) (by simp) | exact HE.out _ _ (Sat.keep S11 (by (repeat (first | exact Keeps.refl _ _ | refine Keeps.alloc ?_ _ | refine Keeps.drew ?_ | refine Keeps.drewN ?_ _)))) (by simp) | exact HE.out _ _ (Sat.keep S10 (by (repeat (first | exact Keeps.refl _ _ | refine Keeps.alloc ?_ _ | refine Keeps.drew ?_ | refine Keeps.drewN ?_ _)))) (by simp)) (first
            | (go_at_call 25; refine (s_num [preq] (g := W) (l := N ++ LL ++ nums [pid]) (by (repeat (first | refine Sat.drew ?_ | refine Sat.drewN ?_ _)); first | exact S11.p1 | exact S11.p2 | exact (S11.p1.box _ _ rfl).b2 | exact (S11.box _ _ rfl) | exact ((S11.box _ _ rfl).box _ _ (b := w11.heap.size + 1) (by simp)).b2 | exact ((S11.box _ _ rfl).p1.box _ _ (b := w11.heap.size + 1) (by simp))) rfl (by omega) (by simp)).mono ?_; rintro e w12 ⟨v12, rfl, S12⟩; have e0 : w12.cell? ⟨xb, 0, none⟩ = some (.int .i64 pid) := S12.cell_of (t := 54) (cs := #[.int .i64 pid, .int .i64 preq, .string (Go.Proofs.Ytcnehacblodiaaa.S pans)]) (by simp) 0 _ rfl; have e1 : w12.cell? ⟨xb, 1, none⟩ = some (.int .i64 preq) := S12.cell_of (t := 54) (cs := #[.int .i64 pid, .int .i64 preq, .string (Go.Proofs.Ytcnehacblodiaaa.S pans)]) (by simp) 1 _ rfl; have e2 : w12.cell? ⟨xb, 2, none⟩ = some (.string (Go.Proofs.Ytcnehacblodiaaa.S pans)) := S12.cell_of (t := 54) (cs := #[.int .i64 pid, .int .i64 preq, .string (Go.Proofs.Ytcnehacblodiaaa.S pans)]) (by simp) 2 _ rfl)
            | (go_at_call 25; refine (s_num [pid] (g := W) (l := N ++ LL) (by (repeat (first | refine Sat.drew ?_ | refine Sat.drewN ?_ _)); first | exact (S10.box _ _ rfl) | exact ((S10.box _ _ rfl).box _ _ (b := w10.heap.size + 1) (by simp)).b2 | exact ((S10.box _ _ rfl).p1.box _ _ (b := w10.heap.size + 1) (by simp)) | exact (((S10.box _ _ rfl).box _ _ (b := w10.heap.size + 1) (by simp)).b2.box _ _ (b := w10.heap.size + 2) (by simp)).b2 | exact (((S10.box _ _ rfl).p1.box _ _ (b := w10.heap.size + 1) (by simp)).box _ _ (b := w10.heap.size + 2) (by simp)).b2 | exact (((S10.box _ _ rfl).p1.box _ _ (b := w10.heap.size + 1) (by simp)).p1.box _ _ (b := w10.heap.size + 2) (by simp))) rfl (by omega) (by simp)).mono ?_; rintro e w11 ⟨v11, rfl, S11⟩; have e0 : w11.cell? ⟨xb, 0, none⟩ = some (.int .i64 pid) := S11.cell_of (t := 54) (cs := #[.int .i64 pid, .int .i64 preq, .string (Go.Proofs.Ytcnehacblodiaaa.S pans)]) (by simp) 0 _ rfl; have e1 : w11.cell? ⟨xb, 1, none⟩ = some (.int .i64 preq) := S11.cell_of (t := 54) (cs := #[.int .i64 pid, .int .i64 preq, .string (Go.Proofs.Ytcnehacblodiaaa.S pans)]) (by simp) 1 _ rfl; have e2 : w11.cell? ⟨xb, 2, none⟩ = some (.string (Go.Proofs.Ytcnehacblodiaaa.S pans)) := S11.cell_of (t := 54) (cs := #[.int .i64 pid, .int .i64 preq, .string (Go.Proofs.Ytcnehacblodiaaa.S pans)]) (by simp) 2 _ rfl)
            | (go_at_call 26; refine (s_text [pans] (g := W) (l := N ++ LL ++ nums [pid] ++ nums [preq]) (by (repeat (first | refine Sat.drew ?_ | refine Sat.drewN ?_ _)); first | exact S12.p1 | exact S12.box _ _ rfl) rfl (by omega) (by simp)).mono ?_; rintro e w13 ⟨v13, rfl, S13⟩; have e0 : w13.cell? ⟨xb, 0, none⟩ = some (.int .i64 pid) := S13.cell_of (t := 54) (cs := #[.int .i64 pid, .int .i64 preq, .string (Go.Proofs.Ytcnehacblodiaaa.S pans)]) (by simp) 0 _ rfl; have e1 : w13.cell? ⟨xb, 1, none⟩ = some (.int .i64 preq) := S13.cell_of (t := 54) (cs := #[.int .i64 pid, .int .i64 preq, .string (Go.Proofs.Ytcnehacblodiaaa.S pans)]) (by simp) 1 _ rfl; have e2 : w13.cell? ⟨xb, 2, none⟩ = some (.string (Go.Proofs.Ytcnehacblodiaaa.S pans)) := S13.cell_of (t := 54) (cs := #[.int .i64 pid, .int .i64 preq, .string (Go.Proofs.Ytcnehacblodiaaa.S pans)]) (by simp) 2 _ rfl))
          all_goals
            go_wp2_with fail
            go_roundw
            case rel =>
              refine ⟨k + 1, by omega, by go_num, ?_⟩
              rw [HT.out]
              simp only [entB, nums, List.flatMap_cons, List.flatMap_nil, List.append_nil, List.append_assoc] at S13 ⊢
              exact S13.p1.drop
            case measure => simp [RowKit.intOf]; omega
        · obtain rfl : k = l.length := by omega
          rw [List.take_length, ← HTD.out] at S9
          have hTl2 : TB.length ≤ 9223372036854775807 := by omega
          clear hle hle2
          go_wp2_with fail
          refine (s_read S9 TB hTl2).mono ?_
          rintro e w14 ⟨r, rfl, S14⟩
          go_wp2_with fail
          refine (s_tread_eq S14 HR0.out).mono ?_
          rintro e w15 ⟨tu, mbu, rfl, S15⟩
          obtain ⟨B7, n7, cb7, hv7, hsrc7⟩ := S15.p3.bytesForm
          subst hv7
          have hconv2 := run_ofBytes (P := Try.prog) (dst := 9) Try.underlying49 Try.underlying5 Try.underlying9 hsrc7 cb7
          have S16 := S15.p3.drop.p2
          have e0 : rdone ([], false) = 0 := rfl
          clear S9 S14 S15 hsrc7
          go_wp2_with fail
          refine (s_rdone S16).mono ?_
          rintro e w17 ⟨rfl, S17⟩
          have S18 := S17.drop.p3.p3
          clear S16 S17 hconv2
          go_wp2_with fail
          refine (s_shows S18 (Sync.self HY.out.mod)).mono ?_
          rintro e w19 ⟨rfl, S19⟩
          clear S18
          have hK : 0 ≤ bits .and .i64 cut 65535 ∧ bits .and .i64 cut 65535 ≤ 65535 := and_le cut 65535 (by decide)
          have hK1 := hK.1
          obtain ⟨q, hq⟩ : ∃ q : Nat, (bits .and .i64 cut 65535).tmod (TB.length : Int) = (q : Int) := ⟨(bits .and .i64 cut 65535 % (TB.length : Int)).toNat, by
            rw [Int.tmod_eq_emod_of_nonneg hK.1]
            have := Int.emod_nonneg (bits .and .i64 cut 65535) (b := (TB.length : Int)) (by omega)
            omega⟩
          have hq2 : q < TB.length := by
            have := Int.emod_lt_of_pos (bits .and .i64 cut 65535) (b := (TB.length : Int)) (by omega)
            rw [← Int.tmod_eq_emod_of_nonneg hK.1, hq] at this
            omega
          have hext : (S TB).extract 0 q = S (TB.take q) := by rw [S_extract]; rfl
          have hcl : (TB.take q).length ≤ 9223372036854775807 := by have := List.length_take_le q TB; omega
          have HRQ := hide (HRC.out q hq2)
          go_wp2_with fail
          refine (s_read S19 (TB.take q) hcl).mono ?_
          rintro e w20 ⟨r2, rfl, S20⟩
          clear hq hK hK1 hext hcl S19
          generalize (readT (TB.take q, false)).2.1 = YL at *
          go_wp2_with fail
          refine (s_tread_eq S20 HRQ.out).mono ?_
          rintro e w21 ⟨tv, mbv, rfl, S21⟩
          clear S20
          go_wp2_with fail
          refine (s_rok S21.p2).mono ?_
          rintro e w22 ⟨rfl, S22⟩
          have S23 := S22.drop
          clear S21 S22
          go_wp2_with fail
          refine (s_all S23 (by simp [keys]) (by simp)).mono ?_
          rintro e w24 ⟨Bv, cv, rfl, S24⟩
          have S25 := S24.drop.drop.drop.p5.p5
          clear S23 S24
          go_wp2_with fail
          refine (s_clone S25).mono ?_
          rintro e w26 ⟨tc, mbc, rfl, S26⟩
          clear S25
          go_wp2_with fail
          have S27 : Sat W (w26.alloc (.cells #[.slice none 0 0] 36)) (mboxA w26.heap.size [] none 0 :: mrowA [] none 0 :: boxA t mb :: tabA mb m :: boxA tc mbc :: tabA mbc m :: mboxA mp l A cap :: mrowA l A cap :: boxA tu mbu :: tabA mbu l :: [oldA W]) := ((S26.p3.p3.box #[.slice none 0 0] 36 rfl).nilRow 54 3).p1
          clear S26
          generalize w26.alloc (.cells #[.slice none 0 0] 36) = w27 at *
          generalize w26.heap.size = sp at *
          go_loopw [123] (fun i wr => ∃ k : Nat, k ≤ ys.length ∧ i = .int .i64 k ∧ ∃ (ls mt : Tab) (A' : Option Addr) (cap' : Nat), ls.length ≤ 16 ∧ Sat W wr (mboxA sp ls A' cap' :: mrowA ls A' cap' :: boxA t mb :: tabA mb mt :: boxA tc mbc :: tabA mbc m :: mboxA mp l A cap :: mrowA l A cap :: boxA tu mbu :: tabA mbu l :: [oldA W])) (fun i _ => ys.length - (RowKit.intOf i).toNat)
          case atStart => exact ⟨0, by omega, rfl, [], m, none, 0, by simp, S27⟩
          case round =>
            obtain ⟨k2, hk2, rfl, ls, mt, A', cap', hls, S28⟩ := hrel
            clear S27
            by_cases hlt2 : k2 < ys.length
            · obtain ⟨ad2, a2, rfl, hx2, d0, d1, d2, d3⟩ := acts_at (h1.keepB (by decide) (S28.keepsOf (by simp)) (fun k hk h => by omega)) hlt2
              have hga := HG1.out a2 (List.mem_of_getElem? hx2)
              clear hx2
              obtain ⟨ak, id, req, ans⟩ := a2
              simp only at d0 d1 d2 d3 hga
              go_wp2_with fail
              have S29 := (S28.box #[.int .i64 ak, .int .i64 id, .int .i64 req, .string (Go.Proofs.Ytcnehacblodiaaa.S ans)] 38 rfl).b4
              refine (s_any S29 hls ak id req ans hga).mono ?_
              rintro e w30 ⟨b30, rfl, l30, m30, A30, c30, hl30, S30⟩
              go_wp2_with fail
              go_roundw
              case rel => exact ⟨k2 + 1, by omega, by go_num, l30, m30, A30, c30, hl30, S30.p4.drop⟩
              case measure => simp [RowKit.intOf]; omega
            · obtain rfl : k2 = ys.length := by omega
              have S29 := S28.drop.drop.drop.drop.p3.p3
              go_wp2_with fail
              refine (s_shows S29 HY.out).mono ?_
              rintro e w31 ⟨rfl, S31⟩
              have S32 := S31.p5.p5.p3.p3
              go_wp2_with fail
              refine (s_shows S32 (Sync.self HY.out.mod)).mono ?_
              rintro e w33 ⟨rfl, S33⟩
              go_wp2_with fail
              go_ret
              exact ⟨rfl, S33.keepsOf (by simp)⟩

end Go.Proofs.Ytcnehacblodiaaa
