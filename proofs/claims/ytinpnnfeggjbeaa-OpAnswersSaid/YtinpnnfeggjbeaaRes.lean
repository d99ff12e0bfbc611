/- Contracts of the package op, results: as bytes, and back; the same. No condition. -/
import Derived.Test.YtinpnnfeggjbeaaSepP
import Derived.Test.YtinpnnfeggjbeaaBytes
import Derived.Test.YtinpnnfeggjbeaaRead
import Derived.Test.YtinpnnfeggjbeaaSame
set_option linter.unusedVariables false
namespace Go.Proofs.Ytinpnnfeggjbeaa
open Go.RowKit

structure OutT where
  path : List UInt8
  version : Int
deriving DecidableEq
structure ResT where
  e : Int
  at_ : Int
  outs : List OutT
  when : Int
deriving DecidableEq
def outC (o : OutT) : List Value := [.string (S o.path), .int .i64 o.version]
abbrev resV (r : ResT) (A : Option Addr) (cap : Nat) : Value := .agg #[.int .i64 r.e, .int .i64 r.at_, .slice A r.outs.length cap, .int .i64 r.when]
abbrev OutSrc (w : World) (A : Option Addr) (os : List OutT) : Prop := Src w 2 A os.length (os.flatMap outC)
theorem outs_at {w : World} {A : Option Addr} {os : List OutT} (h : OutSrc w A os) {k : Nat} (hk : k < os.length) :
    ∃ ad o, A = some ad ∧ os[k]? = some o ∧ w.cell? (ad.add (k * 2)) = some (.string (S o.path)) ∧ w.cell? ⟨(ad.add (k * 2)).block, (ad.add (k * 2)).off + 1, none⟩ = some (.int .i64 o.version) := by
  obtain ⟨ad, e, hc⟩ := h.2 (by omega)
  have ha := List.getElem?_eq_getElem hk
  have hf := flat_at outC 2 (fun _ => rfl) os k _ ha
  refine ⟨ad, os[k], e, ha, hc _ _ (hf 0 _ rfl), ?_⟩
  rw [← add_succ, add_add]; exact hc _ _ (hf 1 _ rfl)

def outB (o : OutT) : List UInt8 := txts [o.path] ++ nums [o.version]
def resB (r : ResT) : List UInt8 := nums [r.e, r.at_, r.when, (r.outs.length : Int)] ++ r.outs.flatMap outB
theorem outB_le (o : OutT) : (outB o).length ≤ 65543 := by
  have h := cut16_le o.path
  simp only [outB, List.length_append, nums_length, txts, List.flatMap_cons, List.flatMap_nil, txt_length, List.length_cons, List.length_nil]
  omega
theorem outsB_le (os : List OutT) : (os.flatMap outB).length ≤ 65543 * os.length := by
  induction os with
  | nil => simp
  | cons o r ih =>
    have h1 := outB_le o
    simp only [List.flatMap_cons, List.length_append, List.length_cons]
    omega
theorem flat_take {α β : Type} (f : α → List β) (l : List α) (k : Nat) (a : α) (h : l[k]? = some a) : (l.take (k + 1)).flatMap f = (l.take k).flatMap f ++ f a := by
  obtain ⟨hk, rfl⟩ := List.getElem?_eq_some_iff.1 h
  rw [List.take_succ_eq_append_getElem hk, List.flatMap_append]
  simp

set_option maxRecDepth 100000 in
set_option maxHeartbeats 1000000 in
theorem bytes_res (w : World) (r : ResT) (A : Option Addr) (cap : Nat) (h : OutSrc w A r.outs) (hl : r.outs.length ≤ 1000) :
    Calls Try.prog 33 #[resV r A cap] w fun e w' => e = .returned (.string (S (resB r))) ∧ Keeps (fun _ => False) w w' := by
  obtain ⟨x, at_, outs, when⟩ := r
  simp only at h hl
  go_enter Try.func33, Try.ntmps33
  go_wp2_with fail
  refine (s_num [x, at_, when, (outs.length : Int)] ((((Sat.start w).box _ _ rfl).bytesNil).box _ _ (by simp)) rfl (by simp) (by simp)).mono ?_
  rintro e w1 ⟨v1, rfl, S1⟩
  have q2 : w1.cell? ⟨w.heap.size, 2, none⟩ = some (.slice A outs.length cap) := S1.p1.cell 2 _ rfl
  have HE : Hid (resB ⟨x, at_, outs, when⟩ = nums [x, at_, when, (outs.length : Int)] ++ outs.flatMap outB) := rfl
  rw [List.nil_append] at S1
  generalize hN : nums [x, at_, when, (outs.length : Int)] = N at *
  have hNl : N.length = 24 := by rw [← hN]; rfl
  have HN := hide hN
  clear hN
  go_wp2_with fail
  go_loopw [3, 20] (fun b i wr => ∃ k : Nat, k ≤ outs.length ∧ i = .int .i64 k ∧ Sat w wr [bytesA b (N ++ (outs.take k).flatMap outB), oldA w]) (fun _ i _ => outs.length - (intOf i).toNat)
  case atStart => exact ⟨0, by omega, rfl, by simpa using S1.p1.drop⟩
  case round =>
    obtain ⟨k, hk, rfl, S2⟩ := hrel
    have hle := outsB_le (outs.take k)
    have hle2 : (outs.take k).length ≤ k := List.length_take_le _ _
    by_cases hlt : k < outs.length
    · obtain ⟨ad, o, rfl, hx, c0, c1⟩ := outs_at (h.keepB (by decide) S2.p1.keeps (fun k hk h => by omega)) hlt
      have HT := hide (flat_take outB outs k o hx)
      clear hx
      obtain ⟨p, ver⟩ := o
      simp only at c0 c1
      generalize hLL : (outs.take k).flatMap outB = LL at *
      have HLL := hide hLL
      clear hLL
      have hb : (N ++ LL).length ≤ 70000000 := by rw [List.length_append]; omega
      go_upto_region 5 with fail
      have ht := txts_le [p]
      have ht : (txts [p]).length ≤ 65537 := ht
      go_region_held3 (fun w' => w'.cell? ⟨wr.heap.size, 0, none⟩ = some (.string (S p)) ∧ w'.cell? ⟨wr.heap.size, 1, none⟩ = some (.int .i64 ver)) (go_keep) (first
            | (go_at_call 32; refine (s_text [p] (g := w) (l := N ++ LL) (by (repeat (first | refine Sat.drew ?_ | refine Sat.drewN ?_ _)); first | exact ((S2.box _ _ rfl).p1).box _ _ (by simp) | exact (((S2.box _ _ rfl).p1.box _ _ rfl).p1).box _ _ (by simp) | exact (((S2.box _ _ rfl).p1.box _ _ (by simp)).box _ _ rfl).b2) rfl (by omega) (by simp)).mono ?_; rintro e w4 ⟨v4, rfl, S4⟩; (try simp only [World.size_alloc] at S4); have q8 : w4.cell? ⟨wr.heap.size, 0, none⟩ = some (.string (S p)) := S4.cell_of (t := 62) (cs := #[.string (S p), .int .i64 ver]) (by simp) 0 _ rfl; have q9 : w4.cell? ⟨wr.heap.size, 1, none⟩ = some (.int .i64 ver) := S4.cell_of (t := 62) (cs := #[.string (S p), .int .i64 ver]) (by simp) 1 _ rfl)
            | (go_at_call 31; refine (s_num [ver] (g := w) (l := N ++ LL ++ txts [p]) (by (repeat (first | refine Sat.drew ?_ | refine Sat.drewN ?_ _)); first | exact S4.box _ _ rfl | exact S4.p1) rfl (by rw [List.length_append]; omega) (by simp)).mono ?_; rintro e w5 ⟨v5, rfl, S5⟩; have q8 : w5.cell? ⟨wr.heap.size, 0, none⟩ = some (.string (S p)) := S5.cell_of (t := 62) (cs := #[.string (S p), .int .i64 ver]) (by simp) 0 _ rfl; have q9 : w5.cell? ⟨wr.heap.size, 1, none⟩ = some (.int .i64 ver) := S5.cell_of (t := 62) (cs := #[.string (S p), .int .i64 ver]) (by simp) 1 _ rfl))
      all_goals
        go_wp2_with fail
        go_roundw
        case rel =>
          refine ⟨k + 1, by omega, by go_num, ?_⟩
          rw [HT.out, ← List.append_assoc]
          simp only [outB, List.append_assoc] at S5 ⊢
          exact S5.b1.drop
        case measure => simp [intOf]; omega
    · obtain rfl : k = outs.length := by omega
      rw [List.take_length] at S2
      obtain ⟨A2, n2, cap2, e2, hsrc⟩ := S2.bytesForm
      subst e2
      have hconv := run_ofBytes (P := Try.prog) (dst := 9) Try.underlying59 Try.underlying5 Try.underlying9 hsrc cap2
      go_wp2_with fail
      go_ret
      exact ⟨by rw [HE.out]; rfl, S2.p1.keep_all⟩

theorem outT_eq (o p : OutT) : decide (o = p) = ((o.path == p.path) && ((o.version == p.version) && true)) := by
  obtain ⟨opath, over⟩ := o
  obtain ⟨ppath, pver⟩ := p
  rw [Bool.eq_iff_iff]
  simp
abbrev outV (o : OutT) : Value := .agg #[.string (S o.path), .int .i64 o.version]
theorem neq_out (w : World) (o p : OutT) : (binOp .neq 62 (outV o) (outV p)).run Try.prog w = .ok (.bool (!decide (o = p))) w := by
  rw [outT_eq]
  exact neq_of Try.underlying62 (by kernel_rfl)
    (ef_cons (.string (S o.path)) (.string (S p.path)) (by decide) (by kernel_rfl) (by kernel_rfl) (str_eq (d := 9998) Try.underlying9)
    (ef_cons (.int .i64 o.version) (.int .i64 p.version) (by decide) (by kernel_rfl) (by kernel_rfl) (run_equalIn_int _ 9998 _ _ _ _ _ Try.underlying3) ef_nil))

set_option maxRecDepth 100000 in
set_option maxHeartbeats 1000000 in
theorem equal_outs (w : World) (A B : Option Addr) (c d : Nat) (xs ys : List OutT) (hx : OutSrc w A xs) (hy : OutSrc w B ys) (hlx : xs.length ≤ 9223372036854775807) (hly : ys.length ≤ 9223372036854775807) :
    Calls Try.prog 54 #[.slice A xs.length c, .slice B ys.length d] w fun e w' => e = .returned (.bool (decide (xs = ys))) ∧ Keeps (fun _ => False) w w' := by
  by_cases hl : xs.length = ys.length
  · go_enter Try.func54, Try.ntmps54
    go_wp2_with fail
    go_loopw [13] (fun i wr => ∃ k : Nat, k ≤ xs.length ∧ i = .int .i64 k ∧ xs.take k = ys.take k ∧ Keeps (fun _ => False) w wr) (fun i _ => xs.length - (intOf i).toNat)
    case atStart => exact ⟨0, by omega, rfl, rfl, Keeps.refl _ _⟩
    case round =>
      obtain ⟨k, hk, rfl, heq, hK⟩ := hrel
      have HE := hide heq
      have HL := hide hl
      have hly2 : k ≤ ys.length := by omega
      clear heq
      by_cases hlt : k < xs.length
      · have hlt2 : k < ys.length := by omega
        clear hl
        obtain ⟨ad, o, rfl, hx1, c0, c1⟩ := outs_at (hx.keep hK (fun _ _ h => h)) hlt
        obtain ⟨bd, p, rfl, hy1, d0, d1⟩ := outs_at (hy.keep hK (fun _ _ h => h)) hlt2
        have HX := hide hx1
        have HY := hide hy1
        have HK := hide hK
        clear hx1 hy1 hx hy hK
        obtain ⟨opath, over⟩ := o
        obtain ⟨ppath, pver⟩ := p
        simp only at c0 c1 d0 d1
        have hneq : ∀ w', (binOp .neq 62 (.agg #[.string (S opath), .int .i64 over]) (.agg #[.string (S ppath), .int .i64 pver])).run Try.prog w' = .ok (.bool (!decide ((⟨opath, over⟩ : OutT) = ⟨ppath, pver⟩))) w' := fun w' => neq_out w' ⟨opath, over⟩ ⟨ppath, pver⟩
        generalize hD : decide ((⟨opath, over⟩ : OutT) = ⟨ppath, pver⟩) = D at hneq
        have HD := hide hD
        clear hD
        cases D
        all_goals
         go_wp2_with fail
         go_quiet (fail)
         go_wp2_with fail
        · go_ret
          refine ⟨?_, HK.out.drewN _⟩
          have hne : xs ≠ ys := fun e => by
            subst e
            have := HX.out.symm.trans HY.out
            injection this with this
            have h2 := HD.out
            rw [this] at h2
            simp at h2
          have e : decide (xs = ys) = false := by simpa using hne
          rw [e]
          rfl
        · go_roundw
          case rel =>
            refine ⟨k + 1, by omega, by go_num, ?_, HK.out.drewN _⟩
            have h2 := HD.out
            simp only [decide_eq_true_eq] at h2
            obtain ⟨hk1, e1⟩ := List.getElem?_eq_some_iff.1 HX.out
            obtain ⟨hk2, e2⟩ := List.getElem?_eq_some_iff.1 HY.out
            rw [List.take_succ_eq_append_getElem hk1, List.take_succ_eq_append_getElem hk2, HE.out, e1, e2, h2]
          case measure => simp [intOf]; omega
      · have hk2 : k = xs.length := by omega
        have e : decide (xs = ys) = true := by
          have h1 := HE.out
          rw [List.take_of_length_le (by omega), List.take_of_length_le (by rw [← HL.out]; omega)] at h1
          simp [h1]
        have E := hide e
        clear e
        go_wp2_with fail
        go_ret
        exact ⟨by rw [E.out]; rfl, hK⟩
  · have e : decide (xs = ys) = false := by
      simp only [decide_eq_false_iff_not]
      rintro rfl
      exact hl rfl
    have hne : ((xs.length : Int) != (ys.length : Int)) = true := by simp; omega
    rw [e]
    clear e hl
    go_enter Try.func54, Try.ntmps54
    go_wp2_with fail
    go_ret
    exact ⟨rfl, Keeps.refl _ _⟩


set_option maxRecDepth 100000 in
set_option maxHeartbeats 2000000 in
theorem same_res (w : World) (c d : ResT) (A B : Option Addr) (cap cbp : Nat) (hc : OutSrc w A c.outs) (hd : OutSrc w B d.outs) (hlc : c.outs.length ≤ 9223372036854775807) (hld : d.outs.length ≤ 9223372036854775807) :
    Calls Try.prog 35 #[resV c A cap, resV d B cbp] w fun e w' => e = .returned (.bool (decide (c = d))) ∧ Keeps (fun _ => False) w w' := by
  obtain ⟨x, at_, outs, when⟩ := c
  obtain ⟨x2, at2, outs2, when2⟩ := d
  simp only at hc hd hlc hld
  have HQ : Hid (∀ w', Keeps (fun _ => False) w w' → Calls Try.prog 54 #[.slice A outs.length cap, .slice B outs2.length cbp] w' fun e w2 => e = .returned (.bool (decide (outs = outs2))) ∧ Keeps (fun _ => False) w' w2) :=
    fun w' hk => equal_outs w' A B cap cbp outs outs2 (hc.keep hk (fun _ _ h => h)) (hd.keep hk (fun _ _ h => h)) hlc hld
  clear hc hd
  generalize hD : decide (outs = outs2) = D at HQ
  have HD := hide hD
  clear hD
  cases D
  all_goals
    go_enter Try.func35, Try.ntmps35
    go_wp2_with (go_at_call 54; refine (HQ.out _ (((Keeps.refl _ w).alloc _).alloc _)).mono ?_; rintro e w1 ⟨rfl, hk1⟩; have hb1 := hk1.heap (heap_alloc2_old w _ _) (fun h => h); have hb2 := hk1.heap (heap_alloc2_new w _ _) (fun h => h); have q1 : w1.cell? ⟨w.heap.size, 3, none⟩ = some (.int .i64 when) := cell_of_row _ _ 3 _ _ _ hb1; have q4 : w1.cell? ⟨w.heap.size + 1, 3, none⟩ = some (.int .i64 when2) := cell_of_row _ _ 3 _ _ _ hb2; clear hb1 hb2)
    all_goals
      go_ret
      refine ⟨congrArg (fun b => Ending.returned (.bool b)) ?_, ?_⟩
      · have hd := HD.out
        simp only [decide_eq_true_eq, decide_eq_false_iff_not] at hd
        rw [Bool.eq_iff_iff]
        try simp [hd]
        try grind
      · first | exact ((Keeps.refl _ w).alloc _).alloc _ | exact (((Keeps.refl _ w).alloc _).alloc _).trans' hk1

end Go.Proofs.Ytinpnnfeggjbeaa
