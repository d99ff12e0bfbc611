/- slices.BinarySearchFunc at watches, by their order. No condition. -/
import Derived.Test.YtbfogieeiobpdaaGreatDoorDel
set_option linter.unusedVariables false
set_option linter.unusedSimpArgs false
namespace Go.Proofs.YtbfogieeiobpdaaGreatDoor
open Go.RowKit

/-- how many stand ahead of a watch; whether it is there -/
def lowF (ws : List WatT) (x : WatT) : Nat := (ws.takeWhile fun q => decide (ordF q x < 0)).length
def thereF (ws : List WatT) (x : WatT) : Bool := match ws[lowF ws x]? with
  | some q => decide (ordF q x = 0)
  | none => false
/-- those that stand ahead of it stand ahead of the others -/
def Parts (ws : List WatT) (x : WatT) : Prop := ∀ (a b : Nat) (p q : WatT), a ≤ b → ws[a]? = some p → ws[b]? = some q → ordF q x < 0 → ordF p x < 0
theorem low_at {ws : List WatT} {x : WatT} {i : Nat} (h0 : i ≤ ws.length) (h1 : ∀ t q, t < i → ws[t]? = some q → ordF q x < 0) (h2 : ∀ q, ws[i]? = some q → ¬ ordF q x < 0) : lowF ws x = i := by
  unfold lowF
  have e : ws = ws.take i ++ ws.drop i := (List.take_append_drop i ws).symm
  have ha : ∀ q ∈ ws.take i, (fun q => decide (ordF q x < 0)) q = true := by
    intro q hq
    obtain ⟨t, ht, rfl⟩ := List.mem_take_iff_getElem.1 hq
    have h3 : t < ws.length := by omega
    exact decide_eq_true (h1 t _ (by omega) (List.getElem?_eq_getElem h3))
  have hd : (ws.drop i).takeWhile (fun q => decide (ordF q x < 0)) = [] := by
    cases hc : ws.drop i with
    | nil => rfl
    | cons q r =>
      have : ws[i]? = some q := by
        have := congrArg (·[0]?) hc
        simpa [List.getElem?_drop] using this
      simp [h2 q this]
  conv => lhs; rw [e]
  rw [List.takeWhile_append_of_pos ha, hd, List.append_nil, List.length_take]
  omega
theorem low_le (ws : List WatT) (x : WatT) : lowF ws x ≤ ws.length := by
  unfold lowF
  have := List.takeWhile_sublist (fun q => decide (ordF q x < 0)) (l := ws)
  exact this.length_le

set_option maxRecDepth 100000 in
set_option maxHeartbeats 4000000 in
theorem bins_watch (w : World) (A : Option Addr) (ws : List WatT) (c : Nat) (x : WatT) (h : Src w 4 A ws.length (ws.flatMap watC)) (hp : Parts ws x) (hl : ws.length ≤ 1000000) :
    Calls Tryz.prog 80 #[.slice A ws.length c, watV x, .func (.func 59) #[] #[]] w fun e w' =>
      e = .returned (.tuple #[.int .i64 (lowF ws x), .bool (thereF ws x)]) ∧ Keeps (fun _ => False) w w' := by
  have HP := hide hp
  clear hp
  have HL : Hid (∀ i, i ≤ ws.length → (∀ t q, t < i → ws[t]? = some q → ordF q x < 0) → (∀ q, ws[i]? = some q → ¬ ordF q x < 0) → lowF ws x = i) := fun i => low_at
  have HT : Hid (thereF ws x = match ws[lowF ws x]? with | some q => decide (ordF q x = 0) | none => false) := rfl
  generalize lowF ws x = lo at *
  generalize thereF ws x = th at *
  have HO : Hid (∀ w q, Calls Tryz.prog 59 #[watV q, watV x] w fun e w' => e = .returned (.int .i64 (ordF q x)) ∧ Keeps (fun _ => False) w w') := fun w q => order_watch w q x
  obtain ⟨y0, y1, y2, y3⟩ := x
  have S0 := (Sat.start w).box #[.int .i64 y0, .string (S y1), .bool y2, .bool y3] 96 rfl
  have hk0 := S0.p1.keep_all
  have h0 := h.keep hk0 (fun _ _ h => h)
  have xb0 : (w.alloc (.cells #[.int .i64 y0, .string (S y1), .bool y2, .bool y3] 96)).cell? ⟨w.heap.size, 0, none⟩ = some (.int .i64 y0) := S0.cell 0 _ rfl
  have xb1 : (w.alloc (.cells #[.int .i64 y0, .string (S y1), .bool y2, .bool y3] 96)).cell? ⟨w.heap.size, 1, none⟩ = some (.string (S y1)) := S0.cell 1 _ rfl
  have xb2 : (w.alloc (.cells #[.int .i64 y0, .string (S y1), .bool y2, .bool y3] 96)).cell? ⟨w.heap.size, 2, none⟩ = some (.bool y2) := S0.cell 2 _ rfl
  have xb3 : (w.alloc (.cells #[.int .i64 y0, .string (S y1), .bool y2, .bool y3] 96)).cell? ⟨w.heap.size, 3, none⟩ = some (.bool y3) := S0.cell 3 _ rfl
  go_enter Tryz.func80, Tryz.ntmps80
  go_upto_region 1 with fail
  generalize hwB : w.alloc (.cells #[.int .i64 y0, .string (S y1), .bool y2, .bool y3] 96) = wB at *
  generalize w.heap.size = xb at *
  clear hwB S0
  have HK0 := hide hk0
  clear hk0 h
  go_wp2_with fail
  go_loopw [9, 10] (fun i j wr => ∃ a b : Nat, i = .int .i64 a ∧ j = .int .i64 b ∧ a ≤ b ∧ b ≤ ws.length ∧ Hid ((∀ t q, t < a → ws[t]? = some q → ordF q ⟨y0, y1, y2, y3⟩ < 0) ∧ (∀ t q, b ≤ t → ws[t]? = some q → 0 ≤ ordF q ⟨y0, y1, y2, y3⟩)) ∧ Keeps (fun _ => False) wB wr) (fun i j _ => (RowKit.intOf j).toNat - (RowKit.intOf i).toNat)
  case atStart => exact ⟨0, ws.length, rfl, rfl, by omega, by omega, hide ⟨fun t q ht => by omega, fun t q h1 h2 => by rw [List.getElem?_eq_none h1] at h2; cases h2⟩, Keeps.refl _ _⟩
  case round =>
    obtain ⟨a, b, rfl, rfl, hab, hb, HI, hK⟩ := hrel
    have h1 := h0.keep hK (fun _ _ h => h)
    have x0 := hK.cell xb0 (fun h => h)
    have x1 := hK.cell xb1 (fun h => h)
    have x2 := hK.cell xb2 (fun h => h)
    have x3 := hK.cell xb3 (fun h => h)
    have HK1 := hide (HK0.out.trans' hK)
    have HK := hide hK
    clear xb0 xb1 xb2 xb3 hK HK0
    by_cases hlt : a < b
    · have hltz : (a : Int) < b := by omega
      obtain ⟨m, hm⟩ : ∃ m : Nat, (a + b) / 2 = m := ⟨_, rfl⟩
      have hm0 : ((a : Int) + (b : Int)) / 2 = (m : Int) := by omega
      have hma : a ≤ m := by omega
      have hmb : m < b := by omega
      clear hm
      obtain ⟨ad, q, rfl, hq, d0, d1, d2, d3⟩ := wat_at h1 (k := m) (by omega)
      have HQ := hide hq
      clear hq
      obtain ⟨R, hR⟩ : ∃ R, ordF q ⟨y0, y1, y2, y3⟩ = R := ⟨_, rfl⟩
      have HC : Hid (∀ w, Calls Tryz.prog 59 #[watV q, watV ⟨y0, y1, y2, y3⟩] w fun e w' => e = .returned (.int .i64 R) ∧ Keeps (fun _ => False) w w') := by rw [← hR]; exact fun w => HO.out w q
      have HR := hide hR
      clear hR h1
      obtain ⟨f0, f1, f2, f3⟩ := q
      simp only at d0 d1 d2 d3 HC
      have hm1 : (0 : Int) ≤ (m : Int) := by omega
      have hm2 : (m : Int) < (ws.length : Int) := by omega
      go_upto_region 5 with fail
      clear hltz
      by_cases hR : R < 0
      · go_region_held3 (fun w' => w'.cell? (ad.add (m * 4)) = some (.int .i64 f0) ∧ w'.cell? ⟨(ad.add (m * 4)).block, (ad.add (m * 4)).off + 1, none⟩ = some (.string (S f1)) ∧ w'.cell? ⟨(ad.add (m * 4)).block, (ad.add (m * 4)).off + 2, none⟩ = some (.bool f2) ∧ w'.cell? ⟨(ad.add (m * 4)).block, (ad.add (m * 4)).off + 3, none⟩ = some (.bool f3) ∧ w'.cell? ⟨xb, 0, none⟩ = some (.int .i64 y0) ∧ w'.cell? ⟨xb, 1, none⟩ = some (.string (S y1)) ∧ w'.cell? ⟨xb, 2, none⟩ = some (.bool y2) ∧ w'.cell? ⟨xb, 3, none⟩ = some (.bool y3)) (go_keep) (first
          | (go_at_call 59; refine (HC.out _).mono ?_; rintro e w3 ⟨rfl, hk3⟩; have c0 := hk3.cell d0 (fun h => h); have c1 := hk3.cell d1 (fun h => h); have c2 := hk3.cell d2 (fun h => h); have c3 := hk3.cell d3 (fun h => h); have c4 := hk3.cell x0 (fun h => h); have c5 := hk3.cell x1 (fun h => h); have c6 := hk3.cell x2 (fun h => h); have c7 := hk3.cell x3 (fun h => h); have HK3 := hide (show Keeps (fun _ => False) wB w3 from Keeps.trans' (by repeat (first | exact HK.out | refine Keeps.drew ?_ | refine Keeps.drewN ?_ _)) hk3); clear hk3))
        all_goals
          go_wp2_with fail
          go_roundw
          case rel => exact ⟨m + 1, b, by go_num, rfl, by omega, by omega, hide ⟨fun t q ht hq => HP.out t m q _ (by omega) hq HQ.out (by rw [HR.out]; exact hR), HI.out.2⟩, by repeat (first | exact HK3.out | refine Keeps.drew ?_ | refine Keeps.drewN ?_ _)⟩
          case measure => simp [RowKit.intOf]; omega
      · go_region_held3 (fun w' => w'.cell? (ad.add (m * 4)) = some (.int .i64 f0) ∧ w'.cell? ⟨(ad.add (m * 4)).block, (ad.add (m * 4)).off + 1, none⟩ = some (.string (S f1)) ∧ w'.cell? ⟨(ad.add (m * 4)).block, (ad.add (m * 4)).off + 2, none⟩ = some (.bool f2) ∧ w'.cell? ⟨(ad.add (m * 4)).block, (ad.add (m * 4)).off + 3, none⟩ = some (.bool f3) ∧ w'.cell? ⟨xb, 0, none⟩ = some (.int .i64 y0) ∧ w'.cell? ⟨xb, 1, none⟩ = some (.string (S y1)) ∧ w'.cell? ⟨xb, 2, none⟩ = some (.bool y2) ∧ w'.cell? ⟨xb, 3, none⟩ = some (.bool y3)) (go_keep) (first
          | (go_at_call 59; refine (HC.out _).mono ?_; rintro e w3 ⟨rfl, hk3⟩; have c0 := hk3.cell d0 (fun h => h); have c1 := hk3.cell d1 (fun h => h); have c2 := hk3.cell d2 (fun h => h); have c3 := hk3.cell d3 (fun h => h); have c4 := hk3.cell x0 (fun h => h); have c5 := hk3.cell x1 (fun h => h); have c6 := hk3.cell x2 (fun h => h); have c7 := hk3.cell x3 (fun h => h); have HK3 := hide (show Keeps (fun _ => False) wB w3 from Keeps.trans' (by repeat (first | exact HK.out | refine Keeps.drew ?_ | refine Keeps.drewN ?_ _)) hk3); clear hk3))
        all_goals
          go_wp2_with fail
          go_roundw
          case rel => exact ⟨a, m, rfl, by go_num, by omega, by omega, hide ⟨HI.out.1, fun t q ht hq => Int.not_lt.1 fun hn => by have h9 := HP.out m t _ q ht HQ.out hq hn; rw [HR.out] at h9; omega⟩, by repeat (first | exact HK3.out | refine Keeps.drew ?_ | refine Keeps.drewN ?_ _)⟩
          case measure => simp [RowKit.intOf]; omega
    · obtain rfl : a = b := by omega
      have hlo : lo = a := HL.out a (by omega) HI.out.1 (fun q hq => HI.out.2 a q (Nat.le_refl _) hq)
      subst hlo
      by_cases hn : lo < ws.length
      · obtain ⟨ad, q, rfl, hq, d0, d1, d2, d3⟩ := wat_at h1 (k := lo) hn
        have hth : th = decide (ordF q ⟨y0, y1, y2, y3⟩ = 0) := by rw [HT.out, hq]
        clear hq
        obtain ⟨R, hR⟩ : ∃ R, ordF q ⟨y0, y1, y2, y3⟩ = R := ⟨_, rfl⟩
        have HC : Hid (∀ w, Calls Tryz.prog 59 #[watV q, watV ⟨y0, y1, y2, y3⟩] w fun e w' => e = .returned (.int .i64 R) ∧ Keeps (fun _ => False) w w') := by rw [← hR]; exact fun w => HO.out w q
        rw [hR] at hth
        have HTH := hide hth
        clear hR h1 hth HT HL
        obtain ⟨f0, f1, f2, f3⟩ := q
        simp only at d0 d1 d2 d3 HC
        have hm0 : (0 : Int) ≤ (lo : Int) := by omega
        have hm2 : (lo : Int) < (ws.length : Int) := by omega
        go_upto_region 8 with fail
        go_region_held3 (fun w' => w'.cell? (ad.add (lo * 4)) = some (.int .i64 f0) ∧ w'.cell? ⟨(ad.add (lo * 4)).block, (ad.add (lo * 4)).off + 1, none⟩ = some (.string (S f1)) ∧ w'.cell? ⟨(ad.add (lo * 4)).block, (ad.add (lo * 4)).off + 2, none⟩ = some (.bool f2) ∧ w'.cell? ⟨(ad.add (lo * 4)).block, (ad.add (lo * 4)).off + 3, none⟩ = some (.bool f3) ∧ w'.cell? ⟨xb, 0, none⟩ = some (.int .i64 y0) ∧ w'.cell? ⟨xb, 1, none⟩ = some (.string (S y1)) ∧ w'.cell? ⟨xb, 2, none⟩ = some (.bool y2) ∧ w'.cell? ⟨xb, 3, none⟩ = some (.bool y3)) (go_keep) (first
          | (go_at_call 59; refine (HC.out _).mono ?_; rintro e w3 ⟨rfl, hk3⟩; have c0 := hk3.cell d0 (fun h => h); have c1 := hk3.cell d1 (fun h => h); have c2 := hk3.cell d2 (fun h => h); have c3 := hk3.cell d3 (fun h => h); have c4 := hk3.cell x0 (fun h => h); have c5 := hk3.cell x1 (fun h => h); have c6 := hk3.cell x2 (fun h => h); have c7 := hk3.cell x3 (fun h => h); have HK3 := hide (show Keeps (fun _ => False) w w3 from Keeps.trans' (by repeat (first | exact HK1.out | refine Keeps.drew ?_ | refine Keeps.drewN ?_ _)) hk3); clear hk3))
        all_goals
          go_wp2_with fail
          go_ret2
          refine ⟨?_, by repeat (first | exact HK3.out | refine Keeps.drew ?_ | refine Keeps.drewN ?_ _)⟩
          rw [HTH.out]
          first | rfl | (simp; done)
      · have hth : th = false := by rw [HT.out, List.getElem?_eq_none (by omega)]
        subst hth
        have hm3 : ¬ ((lo : Int) < (ws.length : Int)) := by omega
        have hm4 : decide ((lo : Int) < (ws.length : Int)) = false := by simpa using hm3
        go_upto_region 8 with fail
        go_quiet (fail)
        all_goals
          go_wp2_with fail
          go_ret2
          exact ⟨rfl, by repeat (first | exact HK1.out | refine Keeps.drew ?_ | refine Keeps.drewN ?_ _)⟩


end Go.Proofs.YtbfogieeiobpdaaGreatDoor
