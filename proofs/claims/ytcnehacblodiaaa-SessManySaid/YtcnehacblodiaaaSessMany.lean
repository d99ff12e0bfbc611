/- The law SessMany, walked. No condition. -/
import Derived.Test.YtcnehacblodiaaaSessLaw
import Derived.Test.YtcnehacblodiaaaSessAll
set_option linter.unusedVariables false
namespace Go.Proofs.Ytcnehacblodiaaa
open Go.RowKit

theorem open_eq (w : World) (t mb : Nat) (m m' : Tab) (id x : Int) (h : Tb w t mb m) (he : openF m id = (x, m')) :
    Calls Try.prog 9 #[ptr t, .int .i64 id] w fun e w' => e = .returned (.int .i64 x) ∧ Tb w' t mb m' ∧ Keeps (fun k => k = mb) w w' := by
  have := open_sess w t mb m id h
  rw [he] at this
  exact this
theorem close_eq (w : World) (t mb : Nat) (m m' : Tab) (id x : Int) (h : Tb w t mb m) (he : closeF m id = (x, m')) :
    Calls Try.prog 11 #[ptr t, .int .i64 id] w fun e w' => e = .returned (.int .i64 x) ∧ Tb w' t mb m' ∧ Keeps (fun k => k = mb) w w' := by
  have := close_sess w t mb m id h
  rw [he] at this
  exact this
theorem has_eq (w : World) (t mb : Nat) (m : Tab) (id : Int) (h : Tb w t mb m) {b : Bool} (he : decide (id ∈ keys m) = b) :
    Calls Try.prog 10 #[ptr t, .int .i64 id] w fun e w' => e = .returned (.bool b) ∧ Keeps (fun _ => False) w w' := by
  rw [← he]
  exact has_sess w t mb m id h

/-- the table of k sessions: 99, 98 .. -/
def tabM (k : Nat) : Tab := (List.range k).map fun j : Nat => (99 - (j : Int), ((0 : Int), ([] : List UInt8)))
theorem tabM_length (k : Nat) : (tabM k).length = k := by simp [tabM]
theorem tabM_keys (k : Nat) (x : Int) : x ∈ keys (tabM k) ↔ 99 - (k : Int) < x ∧ x ≤ 99 := by
  simp only [keys, tabM, List.map_map, List.mem_map, List.mem_range, Function.comp]
  constructor
  · rintro ⟨j, hj, rfl⟩; omega
  · rintro ⟨h1, h2⟩; exact ⟨(99 - x).toNat, by omega, by omega⟩
theorem tabM_open (k : Nat) (hk : k < 16) : openF (tabM k) (99 - (k : Int)) = (0, tabM (k + 1)) := by
  have h1 : ¬ (99 - (k : Int)) ∈ keys (tabM k) := by rw [tabM_keys]; omega
  unfold openF
  rw [if_neg (by omega), if_neg h1, if_neg (by rw [tabM_length]; omega)]
  have : mput (tabM k) (99 - (k : Int)) (0, []) = tabM (k + 1) := by
    unfold mput
    rw [mget_none.2 h1]
    simp [tabM, List.range_succ]
  rw [this]
theorem tabM_full (k : Nat) (hk : 16 ≤ k) (hk2 : k < 90) : openF (tabM 16) (99 - (k : Int)) = (16, tabM 16) := by
  have h1 : ¬ (99 - (k : Int)) ∈ keys (tabM 16) := by rw [tabM_keys]; omega
  unfold openF
  rw [if_neg (by omega), if_neg h1, if_pos (by rw [tabM_length]; omega)]

theorem tabM_has (k : Nat) (x : Int) (h1 : 90 ≤ x) (h2 : x ≤ 99) (hk : 10 ≤ k) : decide (x ∈ keys (tabM k)) = true := by
  simp only [decide_eq_true_eq, tabM_keys]; omega
theorem tabM_close (k : Nat) (x : Int) (h1 : 90 ≤ x) (h2 : x ≤ 99) (hk : 10 ≤ k) : closeF (tabM k) x = (0, mdel (tabM k) x) := by
  unfold closeF
  rw [if_pos (by rw [tabM_keys]; omega)]
theorem tabM_hasnt (k : Nat) (x : Int) : decide (x ∈ keys (mdel (tabM k) x)) = false := by
  simp only [decide_eq_false_iff_not, mem_keys_mdel]; simp
theorem tabM_close2 (k : Nat) (x : Int) : closeF (mdel (tabM k) x) x = (17, mdel (tabM k) x) := by
  unfold closeF
  rw [if_neg (by rw [mem_keys_mdel]; simp)]
theorem tabM_nodup (k : Nat) : (keys (tabM k)).Nodup := by
  simp only [keys, tabM, List.map_map]
  refine List.Pairwise.map _ ?_ List.nodup_range
  intro a b h
  simp only [Function.comp]
  omega
theorem tabM_last (k : Nat) (x : Int) (h1 : 90 ≤ x) (h2 : x ≤ 99) (hk : 10 ≤ k) (hk2 : k ≤ 16) : ∃ m, openF (mdel (tabM k) x) 500 = (0, m) ∧ m.length = k ∧ ∀ y ∈ keys m, 1 ≤ y ∧ y ≤ 281474976710655 := by
  have hl := length_mdel (tabM_nodup k) x ((tabM_keys k x).2 (by omega))
  rw [tabM_length] at hl
  have h3 : ¬ (500 : Int) ∈ keys (mdel (tabM k) x) := by
    rw [mem_keys_mdel, tabM_keys]; omega
  refine ⟨mput (mdel (tabM k) x) 500 (0, []), ?_, ?_, ?_⟩
  · unfold openF
    rw [if_neg (by omega), if_neg h3, if_neg (by omega)]
  · rw [length_mput, if_neg h3]; omega
  · intro y hy
    rw [keys_mput, if_neg h3] at hy
    rcases List.mem_append.1 hy with hy | hy
    · rw [mem_keys_mdel, tabM_keys] at hy; omega
    · simp at hy; omega

set_option maxRecDepth 100000 in
set_option maxHeartbeats 2000000 in
theorem many_walk (W : World) (n which : Int) :
    Calls Try.prog 3 #[.int .i64 n, .int .i64 which] W fun e w' => e = .returned (.bool true) ∧ Keeps (fun k => W.heap.size ≤ k) W w' := by
  have hn : 0 ≤ bits .and .i64 n 15 ∧ bits .and .i64 n 15 ≤ 15 := and_le n 15 (by decide)
  have hw : 0 ≤ bits .and .i64 which 7 ∧ bits .and .i64 which 7 ≤ 7 := and_le which 7 (by decide)
  obtain ⟨hn1, hn2⟩ := hn
  obtain ⟨hw1, hw2⟩ := hw
  go_enter Try.func3, Try.ntmps3
  go_wp2_with fail
  refine (head_sess W).mono ?_
  rintro e w0 ⟨rfl, hk0⟩
  have HK0 := hide hk0
  clear hk0
  go_wp2_with fail
  obtain ⟨N, hN⟩ : ∃ N : Nat, 10 + bits .and .i64 n 15 = (N : Int) := ⟨(10 + bits .and .i64 n 15).toNat, by omega⟩
  have hN1 : 10 ≤ N := by omega
  have hN2 : N ≤ 25 := by omega
  rw [hN]
  clear hN hn1 hn2
  refine (new_sess w0).mono ?_
  rintro e w1 ⟨t, mb, rfl, hT, ht, hmb, hk⟩
  have HT := hide hT
  have HK := hide ((HK0.out.trans' hk).mono (G := fun k => W.heap.size ≤ k) (fun _ _ h => h.elim))
  have hs0 := HK0.out.size
  clear hT hk HK0
  go_wp2_with fail
  go_loopw [6] (fun i wr => ∃ k : Nat, k ≤ N ∧ i = .int .i64 (k + 1) ∧ Tb wr t mb (tabM (min k 16)) ∧ Keeps (fun k => W.heap.size ≤ k) W wr) (fun i _ => N + 2 - (RowKit.intOf i).toNat)
  case atStart => exact ⟨0, by omega, rfl, HT.out, HK.out⟩
  case round =>
    obtain ⟨k, hk, rfl, hT, hK⟩ := hrel
    clear HT HK
    have HT := hide hT
    have HK := hide hK
    clear hT hK
    have e100 : (100 : Int) - (k + 1) = 99 - k := by omega
    by_cases hlt : k < N
    · by_cases h16 : k < 16
      · have hm : min k 16 = k := by omega
        rw [hm] at HT
        have ho := tabM_open k h16
        have HO := hide ho
        clear ho hm
        go_wp2_with fail
        refine (open_eq _ _ _ _ _ _ _ HT.out HO.out).mono ?_
        rintro e w2 ⟨rfl, hT, hk2⟩
        replace HK := hide (HK.out.trans hk2 (fun i hi e => by omega))
        replace HT := hide hT
        clear hT hk2
        go_wp2_with fail
        go_roundw
        case rel => exact ⟨k + 1, by omega, by go_num, by rw [show min (k + 1) 16 = k + 1 by omega]; exact HT.out, HK.out⟩
        case measure => simp [RowKit.intOf]; omega
      · have hm : min k 16 = 16 := by omega
        rw [hm] at HT
        have ho := tabM_full k (by omega) (by omega)
        have HO := hide ho
        clear ho hm
        go_wp2_with fail
        refine (open_eq _ _ _ _ _ _ _ HT.out HO.out).mono ?_
        rintro e w2 ⟨rfl, hT, hk2⟩
        replace HK := hide (HK.out.trans hk2 (fun i hi e => by omega))
        replace HT := hide hT
        clear hT hk2
        go_wp2_with fail
        go_roundw
        case rel => exact ⟨k + 1, by omega, by go_num, by rw [show min (k + 1) 16 = 16 by omega]; exact HT.out, HK.out⟩
        case measure => simp [RowKit.intOf]; omega
    · obtain rfl : k = N := by omega
      have hM1 : 10 ≤ min k 16 := by omega
      have hM2 : min k 16 ≤ 16 := by omega
      have hM3 : ((min k 16 : Nat) : Int) = min (k : Int) 16 := by omega
      have HM3 := hide hM3
      clear hM3
      go_upto_region 12 with fail
      obtain ⟨x, hx⟩ : ∃ x : Int, 100 - (1 + bits .and .i64 which 7) = x := ⟨_, rfl⟩
      have hx1 : 90 ≤ x := by omega
      have hx2 : x ≤ 99 := by omega
      rw [hx]
      clear hx hw1 hw2
      generalize min k 16 = M at *
      go_wp2_with fail
      refine (has_eq _ _ _ _ _ HT.out (tabM_has M x hx1 hx2 hM1)).mono ?_
      rintro e w2 ⟨rfl, hk2⟩
      replace HK := hide (HK.out.trans hk2 (fun i hi e => e.elim))
      replace HT := hide (HT.out.kept hk2 (fun h => h) (fun h => h))
      clear hk2
      go_wp2_with fail
      refine (close_eq _ _ _ _ _ _ _ HT.out (tabM_close M x hx1 hx2 hM1)).mono ?_
      rintro e w3 ⟨rfl, hT, hk2⟩
      replace HK := hide (HK.out.trans hk2 (fun i hi e => by omega))
      replace HT := hide hT
      clear hT hk2
      go_wp2_with fail
      refine (has_eq _ _ _ _ _ HT.out (tabM_hasnt M x)).mono ?_
      rintro e w4 ⟨rfl, hk2⟩
      replace HK := hide (HK.out.trans hk2 (fun i hi e => e.elim))
      replace HT := hide (HT.out.kept hk2 (fun h => h) (fun h => h))
      clear hk2
      go_wp2_with fail
      refine (close_eq _ _ _ _ _ _ _ HT.out (tabM_close2 M x)).mono ?_
      rintro e w5 ⟨rfl, hT, hk2⟩
      replace HK := hide (HK.out.trans hk2 (fun i hi e => by omega))
      replace HT := hide hT
      clear hT hk2
      obtain ⟨m, hop, hml, hmk⟩ := tabM_last M x hx1 hx2 hM1 hM2
      have HM := hide hmk
      have HO := hide hop
      clear hmk hop
      go_wp2_with fail
      refine (open_eq _ _ _ _ _ _ _ HT.out HO.out).mono ?_
      rintro e w6 ⟨rfl, hT, hk2⟩
      replace HK := hide (HK.out.trans hk2 (fun i hi e => by omega))
      replace HT := hide hT
      clear hT hk2
      go_wp2_with fail
      refine (all_sess _ _ _ _ HT.out HM.out (by omega)).mono ?_
      rintro e w7 ⟨A, cap, rfl, hsrc, hk2⟩
      replace HK := hide (HK.out.trans hk2 (fun i hi e => e.elim))
      clear hsrc hk2
      go_wp2_with fail
      go_ret
      refine ⟨congrArg (fun b => Ending.returned (.bool b)) ?_, HK.out⟩
      have h3 := HM3.out
      trace_state
      simp
      omega

end Go.Proofs.Ytcnehacblodiaaa
