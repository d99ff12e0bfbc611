/- The statement WatchMany: its walk. No condition. -/
import Derived.Test.YtmlnhiodabielaaDoorWHead
import Derived.Test.YtmlnhiodabielaaDoorWOrd
set_option linter.unusedVariables false
set_option linter.unusedSimpArgs false
namespace Go.Proofs.YtmlnhiodabielaaDoor
open Go.RowKit

/-! ### plain -/
def wOf (i : Nat) : WatT := ⟨i, [47], false, decide (i % 2 = 0)⟩
def mB (j : Nat) : BookT := ⟨(List.range j).map fun k => wOf (k + 1), [], []⟩
theorem wOf_lt {a b : Nat} (h : a < b) : ordF (wOf a) (wOf b) < 0 := by
  have h1 : cmpI (a : Int) (b : Int) = -1 := by unfold cmpI; rw [if_pos (by omega)]
  have h2 : ordF (wOf a) (wOf b) = -1 := by
    simp only [ordF, orF, wOf, h1]
    simp
  rw [h2]
  decide
theorem mB_sorted (j : Nat) : SortedW (mB j).ws := by
  unfold SortedW mB
  rw [List.pairwise_map]
  exact List.pairwise_lt_range.imp fun h => wOf_lt (by omega)
theorem mB_mem (j i : Nat) : wOf i ∈ (mB j).ws ↔ 1 ≤ i ∧ i ≤ j := by
  simp only [mB, List.mem_map, List.mem_range]
  constructor
  · rintro ⟨k, hk, e⟩
    have : (((k + 1 : Nat) : Int)) = (i : Int) := congrArg WatT.session e
    omega
  · intro h
    exact ⟨i - 1, by omega, by rw [show i - 1 + 1 = i by omega]⟩
theorem mB_len (j : Nat) : (mB j).ws.length = j := by simp [mB]
theorem check_root : checkF [47] = 0 := by decide
theorem mB_new (j : Nat) (h : j < 40) : addF (mB j) (wOf (j + 1)) = (0, mB (j + 1)) := by
  have h1 : thereF (mB j).ws (wOf (j + 1)) = false := by
    cases hc : thereF (mB j).ws (wOf (j + 1)) with
    | false => rfl
    | true =>
      have := (mB_mem j (j + 1)).1 ((there_iff (mB_sorted j) _).1 hc)
      omega
  have h2 : lowF (mB j).ws (wOf (j + 1)) = j := by
    refine low_at (by rw [mB_len]; omega) (fun t q ht hq => ?_) (fun q hq => ?_)
    · simp only [mB, List.getElem?_map, Option.map_eq_some_iff] at hq
      obtain ⟨k, hk, rfl⟩ := hq
      obtain ⟨hk2, rfl⟩ := List.getElem?_eq_some_iff.1 hk
      rw [List.getElem_range]
      exact wOf_lt (by omega)
    · rw [List.getElem?_eq_none (by rw [mB_len]; omega)] at hq
      cases hq
  unfold addF
  rw [if_neg (by simp only [wOf]; omega), if_neg (by simp only [wOf, check_root]; simp), h1, if_neg (by simp), if_neg (by rw [mB_len]; omega), h2, List.take_of_length_le (by rw [mB_len]; omega), List.drop_eq_nil_of_le (by rw [mB_len]; omega)]
  simp [mB, List.range_succ]
theorem mB_old (j i : Nat) (h1 : 1 ≤ i) (h2 : i ≤ j) (hj : j ≤ 1000) : addF (mB j) (wOf i) = (0, mB j) := by
  unfold addF
  rw [if_neg (by simp only [wOf]; omega), if_neg (by simp only [wOf, check_root]; simp), if_pos ((there_iff (mB_sorted j) _).2 ((mB_mem j i).2 ⟨h1, h2⟩))]
theorem mB_full (i : Nat) (h1 : 40 < i) (hi : i ≤ 1000) : addF (mB 40) (wOf i) = (16, mB 40) := by
  have h3 : thereF (mB 40).ws (wOf i) = false := by
    cases hc : thereF (mB 40).ws (wOf i) with
    | false => rfl
    | true =>
      have := (mB_mem 40 i).1 ((there_iff (mB_sorted 40) _).1 hc)
      omega
  unfold addF
  rw [if_neg (by simp only [wOf]; omega), if_neg (by simp only [wOf, check_root]; simp), h3, if_neg (by simp), if_pos (by rw [mB_len]; omega)]

def fE (j : Nat) : List EvT := (List.range j).map fun k => ⟨((k + 1 : Nat) : Int), 1, [47], 3, 1⟩
def fN (j : Nat) : List (Int × Int) := (List.range j).map fun k => (((k + 1 : Nat) : Int), 1)
def fB (j : Nat) : BookT := ⟨(mB j).ws.filter fun x => !x.once, fE j, fN j⟩
theorem fN_none (j i : Nat) (h : j < i) : mget (fN j) (i : Int) = none := by
  rw [mget_none]
  simp only [keys, fN, List.map_map, List.mem_map, List.mem_range, Function.comp]
  rintro ⟨k, hk, e⟩
  omega
theorem hears_of (i : Nat) : hearsF (wOf i) [47] 3 = (3, true) := by simp [hearsF, wOf]
theorem fold_mB (j : Nat) : (mB j).ws.foldl (noteF [47] 3 1) ([], []) = (fE j, fN j) := by
  induction j with
  | zero => rfl
  | succ j ih =>
    have e : (mB (j + 1)).ws = (mB j).ws ++ [wOf (j + 1)] := by simp [mB, List.range_succ]
    have hn : mput (fN j) (((j + 1 : Nat) : Int)) 1 = fN (j + 1) := by
      unfold mput
      rw [fN_none j (j + 1) (by omega)]
      simp [fN, List.range_succ]
    have hg : (mget (fN j) (((j + 1 : Nat) : Int))).getD 0 = 0 := by rw [fN_none j (j + 1) (by omega)]; rfl
    rw [e, List.foldl_append, ih, List.foldl_cons, List.foldl_nil]
    unfold noteF
    rw [hears_of, if_pos rfl]
    show (fE j ++ [_], mput (fN j) (((j + 1 : Nat) : Int)) ((mget (fN j) (((j + 1 : Nat) : Int))).getD 0 + 1)) = _
    rw [hg]
    show (_, mput (fN j) (((j + 1 : Nat) : Int)) 1) = _
    rw [hn]
    have hg2 : (mget (fN j) ((j : Int) + 1)).getD 0 = 0 := hg
    simp [fE, List.range_succ, wOf, hg2]
theorem fire_mB (j : Nat) : fireF (mB j) [47] 3 1 = fB j := by
  unfold fireF
  have h0 : ((mB j).es, (mB j).nos) = (([], []) : Nts) := rfl
  rw [h0, fold_mB]
  unfold fB
  congr 1
  refine List.filter_congr fun x hx => ?_
  simp only [mB, List.mem_map] at hx
  obtain ⟨k, _, rfl⟩ := hx
  simp [firesP, hears_of]
theorem fB_events (j i : Nat) (h1 : 1 ≤ i) (h2 : i ≤ j) : ((fB j).es.filter fun x => decide (x.session = (i : Int))).length = 1 := by
  show ((fE j).filter fun x => decide (x.session = (i : Int))).length = 1
  induction j with
  | zero => omega
  | succ j ih =>
    have e : fE (j + 1) = fE j ++ [⟨((j + 1 : Nat) : Int), 1, [47], 3, 1⟩] := by simp [fE, List.range_succ]
    rw [e, List.filter_append, List.length_append]
    by_cases h : i = j + 1
    · subst h
      have h3 : (fE j).filter (fun x => decide (x.session = ((j + 1 : Nat) : Int))) = [] := by
        rw [List.filter_eq_nil_iff]
        intro x hx
        simp only [fE, List.mem_map, List.mem_range] at hx
        obtain ⟨k, hk, rfl⟩ := hx
        simp only [decide_eq_true_eq]
        omega
      rw [h3]
      simp
    · have h4 : ¬ (((j + 1 : Nat) : Int) = (i : Int)) := by omega
      rw [ih (by omega)]
      simp [h4]
      omega
theorem fB_left (j : Nat) : (fB j).ws.length = (j + 1) / 2 := by
  show ((mB j).ws.filter fun x => !x.once).length = _
  induction j with
  | zero => rfl
  | succ j ih =>
    have e : (mB (j + 1)).ws = (mB j).ws ++ [wOf (j + 1)] := by simp [mB, List.range_succ]
    rw [e, List.filter_append, List.length_append, ih]
    by_cases h : (j + 1) % 2 = 0
    · rw [List.filter_cons, if_neg (by simp [wOf, h])]
      simp
      omega
    · rw [List.filter_cons, if_pos (by simp [wOf, h])]
      simp
      omega
theorem fB_zero (j : Nat) : addF (fB j) ⟨0, [47], false, false⟩ = (1, fB j) := by
  unfold addF
  rw [if_pos (.inl (by decide))]
theorem fB_path (j : Nat) : addF (fB j) ⟨1, [120], false, false⟩ = (10, fB j) := by
  have h : checkF [120] = 10 := by decide
  unfold addF
  rw [if_neg (by decide), if_pos (by simp [h])]
  simp [h]

/-! ### the walk -/
theorem add_eq {g w : World} {L : List Asn} {b : Nat} {B : BookT} (S : Sat g w (bookA b B :: L)) (hG : GL w) (x : WatT) (hx : x.path.length ≤ 140737488355328) (hs : SortedW B.ws) (hl : B.ws.length ≤ 1000) {r : Int} {B' : BookT} (h : addF B x = (r, B')) :
    Calls Tryd.prog 15 #[ptr b, watV x] w fun e w' => e = .returned (.int .i64 r) ∧ Sat g w' (bookA b B' :: L) := by
  have := add_book S hG x hx (hs.parts x) hl
  rw [h] at this
  exact this
theorem watches_len {g w : World} {L : List Asn} {b : Nat} {B : BookT} (S : Sat g w (bookA b B :: L)) {n : Nat} (hn : B.ws.length = n) (hl : n ≤ 1000) :
    Calls Tryd.prog 18 #[ptr b] w fun e w' => ∃ A c, e = .returned (.slice A n c) ∧ Sat g w' (bookA b B :: L) := by
  subst hn
  refine (watches_book S hl).mono ?_
  rintro e w' ⟨v, rfl, S'⟩
  obtain ⟨A, c, rfl, -⟩ := S'.row.form
  exact ⟨A, c, rfl, S'.drop⟩
theorem events_len {g w : World} {L : List Asn} {b : Nat} {B : BookT} (S : Sat g w (bookA b B :: L)) (hl : B.es.length ≤ 1000000) (sess : Int) {n : Nat} (hn : (B.es.filter fun x => decide (x.session = sess)).length = n) :
    Calls Tryd.prog 13 #[ptr b, .int .i64 sess] w fun e w' => ∃ A c, e = .returned (.slice A n c) ∧ Sat g w' (bookA b B :: L) := by
  subst hn
  refine (events_book S hl sess).mono ?_
  rintro e w' ⟨v, rfl, S'⟩
  obtain ⟨A, c, rfl, -⟩ := S'.row.form
  exact ⟨A, c, rfl, S'.drop⟩

set_option maxRecDepth 100000 in
set_option maxHeartbeats 8000000 in
theorem wmany_walk (W : World) (hG : GL W) (n : Int) :
    Calls Tryd.prog 6 #[.int .i64 n] W fun e w' => e = .returned (.bool true) ∧ Keeps (fun _ => False) W w' := by
  have HGL : Hid (∀ {w : World} {L : List Asn}, Sat W w L → oldA W ∈ L → GL w) := fun S hm => hG.of S hm
  have hn : 0 ≤ bits .and .i64 n 15 ∧ bits .and .i64 n 15 ≤ 15 := and_le n 15 (by decide)
  obtain ⟨hn1, hn2⟩ := hn
  go_enter Tryd.func6, Tryd.ntmps6
  go_wp2_with fail
  refine (head_watch (Sat.start W) hG (by simp)).mono ?_
  rintro e w0 ⟨rfl, S0⟩
  go_wp2_with fail
  obtain ⟨N, hN⟩ : ∃ N : Nat, 30 + bits .and .i64 n 15 = (N : Int) := ⟨(30 + bits .and .i64 n 15).toNat, by omega⟩
  have hN1 : 30 ≤ N := by omega
  have hN2 : N ≤ 45 := by omega
  rw [hN]
  clear hN hn1 hn2
  refine (new_book S0).mono ?_
  rintro e w1 ⟨t, rfl, S1⟩
  have S1 : Sat W w1 (bookA t (mB 0) :: [oldA W]) := S1
  clear S0 hG
  go_wp2_with fail
  go_loopw [4] (fun i wr => ∃ k : Nat, k ≤ N ∧ i = .int .i64 (k + 1) ∧ Sat W wr (bookA t (mB (min k 40)) :: [oldA W])) (fun i _ => N + 2 - (RowKit.intOf i).toNat)
  case atStart => exact ⟨0, by omega, rfl, S1⟩
  case round =>
    obtain ⟨k, hk, rfl, S2⟩ := hrel
    clear S1
    by_cases hlt : k < N
    · by_cases h40 : k < 40
      · have hm : min k 40 = k := by omega
        rw [hm] at S2
        have hle : (k : Int) + 1 ≤ 40 := by omega
        have hgt : decide ((40 : Int) < (k : Int) + 1) = false := by simpa using hle
        have hmin : min ((k : Int) + 1) 40 = (k : Int) + 1 := by omega
        have hk1 : (k : Int) + 1 ≤ N := by omega
        by_cases hp : (k + 1) % 2 = 0
        · skip
          have hx : wOf (k + 1) = ⟨(k : Int) + 1, [47], false, true⟩ := by simp [wOf, hp]
          have ha1 : addF (mB k) ⟨(k : Int) + 1, [47], false, true⟩ = (0, (mB (k + 1))) := by rw [← hx]; exact mB_new k h40
          have ha2 : addF (mB (k + 1)) ⟨(k : Int) + 1, [47], false, true⟩ = (0, (mB (k + 1))) := by rw [← hx]; exact mB_old (k + 1) (k + 1) (by omega) (Nat.le_refl _) (by omega)
          have HA1 := hide ha1
          have HA2 := hide ha2
          clear hx ha1 ha2
          have hrem : ((k : Int) + 1).tmod 2 = 0 := by rw [Int.tmod_eq_emod_of_nonneg (by omega)]; omega
          go_upto_region 9 with fail
          have S3 := S2.box #[.int .i64 ((k : Int) + 1), .string ⟨#[47]⟩, .bool false, .bool true] 47 rfl
          generalize wr.alloc (.cells #[.int .i64 ((k : Int) + 1), .string ⟨#[47]⟩, .bool false, .bool true] 47) = w3 at *
          generalize wr.heap.size = xb at *
          have x0 := S3.cell 0 _ rfl
          have x1 := S3.cell 1 _ rfl
          have x2 := S3.cell 2 _ rfl
          have x3 := S3.cell 3 _ rfl
          clear S2
          go_wp2_with fail
          refine (add_eq S3.p1 (HGL.out S3 (by simp)) ⟨(k : Int) + 1, [47], false, true⟩ (by simp) (mB_sorted _) (by rw [mB_len]; omega) HA1.out).mono ?_
          rintro e w4 ⟨rfl, S4⟩
          have y0 := S4.p1.cell 0 _ rfl
          have y1 := S4.p1.cell 1 _ rfl
          have y2 := S4.p1.cell 2 _ rfl
          have y3 := S4.p1.cell 3 _ rfl
          clear S3 x0 x1 x2 x3
          go_wp2_with fail
          refine (add_eq S4 (HGL.out S4 (by simp)) ⟨(k : Int) + 1, [47], false, true⟩ (by simp) (mB_sorted _) (by rw [mB_len]; omega) HA2.out).mono ?_
          rintro e w5 ⟨rfl, S5⟩
          clear S4 y0 y1 y2 y3
          go_wp2_with fail
          refine (watches_len S5 (mB_len (k + 1)) (by omega)).mono ?_
          rintro e w6 ⟨A, c, rfl, S6⟩
          clear S5
          go_wp2_with fail
          go_roundw
          case rel => exact ⟨k + 1, by omega, by go_num, by rw [show min (k + 1) 40 = k + 1 by omega]; exact S6.p1.drop⟩
          case measure => simp [RowKit.intOf]; omega
        · skip
          have hx : wOf (k + 1) = ⟨(k : Int) + 1, [47], false, false⟩ := by simp [wOf, hp]
          have ha1 : addF (mB k) ⟨(k : Int) + 1, [47], false, false⟩ = (0, (mB (k + 1))) := by rw [← hx]; exact mB_new k h40
          have ha2 : addF (mB (k + 1)) ⟨(k : Int) + 1, [47], false, false⟩ = (0, (mB (k + 1))) := by rw [← hx]; exact mB_old (k + 1) (k + 1) (by omega) (Nat.le_refl _) (by omega)
          have HA1 := hide ha1
          have HA2 := hide ha2
          clear hx ha1 ha2
          have hrem : ((k : Int) + 1).tmod 2 = 1 := by rw [Int.tmod_eq_emod_of_nonneg (by omega)]; omega
          go_upto_region 9 with fail
          have S3 := S2.box #[.int .i64 ((k : Int) + 1), .string ⟨#[47]⟩, .bool false, .bool false] 47 rfl
          generalize wr.alloc (.cells #[.int .i64 ((k : Int) + 1), .string ⟨#[47]⟩, .bool false, .bool false] 47) = w3 at *
          generalize wr.heap.size = xb at *
          have x0 := S3.cell 0 _ rfl
          have x1 := S3.cell 1 _ rfl
          have x2 := S3.cell 2 _ rfl
          have x3 := S3.cell 3 _ rfl
          clear S2
          go_wp2_with fail
          refine (add_eq S3.p1 (HGL.out S3 (by simp)) ⟨(k : Int) + 1, [47], false, false⟩ (by simp) (mB_sorted _) (by rw [mB_len]; omega) HA1.out).mono ?_
          rintro e w4 ⟨rfl, S4⟩
          have y0 := S4.p1.cell 0 _ rfl
          have y1 := S4.p1.cell 1 _ rfl
          have y2 := S4.p1.cell 2 _ rfl
          have y3 := S4.p1.cell 3 _ rfl
          clear S3 x0 x1 x2 x3
          go_wp2_with fail
          refine (add_eq S4 (HGL.out S4 (by simp)) ⟨(k : Int) + 1, [47], false, false⟩ (by simp) (mB_sorted _) (by rw [mB_len]; omega) HA2.out).mono ?_
          rintro e w5 ⟨rfl, S5⟩
          clear S4 y0 y1 y2 y3
          go_wp2_with fail
          refine (watches_len S5 (mB_len (k + 1)) (by omega)).mono ?_
          rintro e w6 ⟨A, c, rfl, S6⟩
          clear S5
          go_wp2_with fail
          go_roundw
          case rel => exact ⟨k + 1, by omega, by go_num, by rw [show min (k + 1) 40 = k + 1 by omega]; exact S6.p1.drop⟩
          case measure => simp [RowKit.intOf]; omega
      · have hm : min k 40 = 40 := by omega
        rw [hm] at S2
        have hle : (40 : Int) < (k : Int) + 1 := by omega
        have hgt : decide ((k : Int) + 1 ≤ (40 : Int)) = false := by simpa using hle
        have hmin : min ((k : Int) + 1) 40 = 40 := by omega
        have hk1 : (k : Int) + 1 ≤ N := by omega
        by_cases hp : (k + 1) % 2 = 0
        · skip
          have hx : wOf (k + 1) = ⟨(k : Int) + 1, [47], false, true⟩ := by simp [wOf, hp]
          have ha1 : addF (mB 40) ⟨(k : Int) + 1, [47], false, true⟩ = (16, (mB 40)) := by rw [← hx]; exact mB_full (k + 1) (by omega) (by omega)
          have HA1 := hide ha1
          clear hx ha1
          have hrem : ((k : Int) + 1).tmod 2 = 0 := by rw [Int.tmod_eq_emod_of_nonneg (by omega)]; omega
          go_upto_region 9 with fail
          have S3 := S2.box #[.int .i64 ((k : Int) + 1), .string ⟨#[47]⟩, .bool false, .bool true] 47 rfl
          generalize wr.alloc (.cells #[.int .i64 ((k : Int) + 1), .string ⟨#[47]⟩, .bool false, .bool true] 47) = w3 at *
          generalize wr.heap.size = xb at *
          have x0 := S3.cell 0 _ rfl
          have x1 := S3.cell 1 _ rfl
          have x2 := S3.cell 2 _ rfl
          have x3 := S3.cell 3 _ rfl
          clear S2
          go_wp2_with fail
          refine (add_eq S3.p1 (HGL.out S3 (by simp)) ⟨(k : Int) + 1, [47], false, true⟩ (by simp) (mB_sorted _) (by rw [mB_len]; omega) HA1.out).mono ?_
          rintro e w4 ⟨rfl, S4⟩
          have y0 := S4.p1.cell 0 _ rfl
          have y1 := S4.p1.cell 1 _ rfl
          have y2 := S4.p1.cell 2 _ rfl
          have y3 := S4.p1.cell 3 _ rfl
          clear S3 x0 x1 x2 x3
          go_wp2_with fail
          have S5 := S4
          refine (watches_len S5 (mB_len 40) (by omega)).mono ?_
          rintro e w6 ⟨A, c, rfl, S6⟩
          clear S5
          go_wp2_with fail
          go_roundw
          case rel => exact ⟨k + 1, by omega, by go_num, by rw [show min (k + 1) 40 = 40 by omega]; exact S6.p1.drop⟩
          case measure => simp [RowKit.intOf]; omega
        · skip
          have hx : wOf (k + 1) = ⟨(k : Int) + 1, [47], false, false⟩ := by simp [wOf, hp]
          have ha1 : addF (mB 40) ⟨(k : Int) + 1, [47], false, false⟩ = (16, (mB 40)) := by rw [← hx]; exact mB_full (k + 1) (by omega) (by omega)
          have HA1 := hide ha1
          clear hx ha1
          have hrem : ((k : Int) + 1).tmod 2 = 1 := by rw [Int.tmod_eq_emod_of_nonneg (by omega)]; omega
          go_upto_region 9 with fail
          have S3 := S2.box #[.int .i64 ((k : Int) + 1), .string ⟨#[47]⟩, .bool false, .bool false] 47 rfl
          generalize wr.alloc (.cells #[.int .i64 ((k : Int) + 1), .string ⟨#[47]⟩, .bool false, .bool false] 47) = w3 at *
          generalize wr.heap.size = xb at *
          have x0 := S3.cell 0 _ rfl
          have x1 := S3.cell 1 _ rfl
          have x2 := S3.cell 2 _ rfl
          have x3 := S3.cell 3 _ rfl
          clear S2
          go_wp2_with fail
          refine (add_eq S3.p1 (HGL.out S3 (by simp)) ⟨(k : Int) + 1, [47], false, false⟩ (by simp) (mB_sorted _) (by rw [mB_len]; omega) HA1.out).mono ?_
          rintro e w4 ⟨rfl, S4⟩
          have y0 := S4.p1.cell 0 _ rfl
          have y1 := S4.p1.cell 1 _ rfl
          have y2 := S4.p1.cell 2 _ rfl
          have y3 := S4.p1.cell 3 _ rfl
          clear S3 x0 x1 x2 x3
          go_wp2_with fail
          have S5 := S4
          refine (watches_len S5 (mB_len 40) (by omega)).mono ?_
          rintro e w6 ⟨A, c, rfl, S6⟩
          clear S5
          go_wp2_with fail
          go_roundw
          case rel => exact ⟨k + 1, by omega, by go_num, by rw [show min (k + 1) 40 = 40 by omega]; exact S6.p1.drop⟩
          case measure => simp [RowKit.intOf]; omega
    · obtain rfl : k = N := by omega
      obtain ⟨M, hM⟩ : ∃ M, min k 40 = M := ⟨_, rfl⟩
      have hM1 : 30 ≤ M := by omega
      have hM2 : M ≤ 40 := by omega
      have hM3 : min (k : Int) 40 = (M : Int) := by omega
      rw [hM] at S2
      clear hM
      go_wp2_with fail
      have hf := fire_book S2 (by simp [mB]) (by rw [mB_len]; omega) (nos_nil _ (by decide)) [47] 3 1 (by simp)
      rw [fire_mB] at hf
      refine hf.mono ?_
      rintro e w3 ⟨rfl, S3⟩
      clear hf S2
      go_wp2_with fail
      go_loopw [7, 8] (fun lv i wr2 => ∃ j l : Nat, j ≤ M ∧ lv = .int .i64 l ∧ i = .int .i64 (j + 1) ∧ l = (j + 1) / 2 ∧ Sat W wr2 (bookA t (fB M) :: [oldA W])) (fun _ i _ => M + 2 - (RowKit.intOf i).toNat)
      case atStart => exact ⟨0, 0, by omega, rfl, rfl, rfl, S3⟩
      case round =>
        obtain ⟨j, l, hj, rfl, rfl, hl, S4⟩ := hrel
        clear S3
        have hlb : l ≤ 100 := by omega
        have HL := hide hl
        clear hl
        by_cases hlt2 : j < M
        · have hle : (j : Int) + 1 ≤ M := by omega
          have hev := fB_events M (j + 1) (by omega) (by omega)
          have HEV : Hid (((fB M).es.filter fun x => decide (x.session = (j : Int) + 1)).length = 1) := hev
          clear hev
          by_cases hp : (j + 1) % 2 = 0
          · skip
            have hrem : ((j : Int) + 1).tmod 2 = 0 := by rw [Int.tmod_eq_emod_of_nonneg (by omega)]; omega
            go_wp2_with fail
            refine (events_len S4 (by simp [fB, fE]; omega) ((j : Int) + 1) HEV.out).mono ?_
            rintro e w5 ⟨A, c, rfl, S5⟩
            go_wp2_with fail
            go_roundw
            case rel => exact ⟨j + 1, l, by omega, rfl, by go_num, by have := HL.out; omega, S5⟩
            case measure => simp [RowKit.intOf]; omega
          · skip
            have hrem : ((j : Int) + 1).tmod 2 = 1 := by rw [Int.tmod_eq_emod_of_nonneg (by omega)]; omega
            go_wp2_with fail
            refine (events_len S4 (by simp [fB, fE]; omega) ((j : Int) + 1) HEV.out).mono ?_
            rintro e w5 ⟨A, c, rfl, S5⟩
            go_wp2_with fail
            go_roundw
            case rel => exact ⟨j + 1, l + 1, by omega, by go_num, by go_num, by have := HL.out; omega, S5⟩
            case measure => simp [RowKit.intOf]; omega
        · obtain rfl : j = M := by omega
          have hle : decide ((j : Int) + 1 ≤ (j : Int)) = false := by simp; omega
          go_wp2_with fail
          refine (watches_len S4 (n := l) (by rw [fB_left, HL.out]) (by have := HL.out; omega)).mono ?_
          rintro e w5 ⟨A, c, rfl, S5⟩
          have hs := (mB_sorted j).filter (fun x => !x.once)
          have HS : Hid (SortedW (fB j).ws) := hs
          have HBL : Hid ((fB j).ws.length ≤ 1000) := by show _ ≤ _; rw [fB_left]; omega
          clear hs S4
          go_wp2_with fail
          refine (add_eq S5 (HGL.out S5 (by simp)) ⟨0, [47], false, false⟩ (by simp) HS.out HBL.out (fB_zero j)).mono ?_
          rintro e w6 ⟨rfl, S6⟩
          clear S5
          go_wp2_with fail
          refine (add_eq S6 (HGL.out S6 (by simp)) ⟨1, [120], false, false⟩ (by simp) HS.out HBL.out (fB_path j)).mono ?_
          rintro e w7 ⟨rfl, S7⟩
          have HK := hide (S7.drop.keep_all)
          clear S6 S7
          go_wp2_with fail
          go_ret
          exact ⟨rfl, HK.out⟩

end Go.Proofs.YtmlnhiodabielaaDoor
