/- The model of the statements of layer 9: Set. No condition. -/
import Derived.Test.YtecpfnobnpddaaaGreatDoorTModB
import Derived.Deep.RegionHeld3
set_option linter.unusedVariables false
set_option linter.unusedSimpArgs false
namespace Go.Proofs.YtecpfnobnpddaaaGreatDoor
open Go.RowKit

theorem flat_set {α : Type} {f : α → List Value} {n : Nat} (hn : ∀ a, (f a).length = n) (M : List α) (i j : Nat) (p p' : α) (v : Value) (h : M[i]? = some p) (hj : j < n) (hp : f p' = (f p).set j v) :
    (M.flatMap f).set (i * n + j) v = (M.set i p').flatMap f := by
  induction M generalizing i with
  | nil => simp at h
  | cons a M ih =>
    cases i with
    | zero =>
      simp only [List.getElem?_cons_zero, Option.some.injEq] at h
      subst h
      rw [List.flatMap_cons, List.set_cons_zero, List.flatMap_cons, hp, Nat.zero_mul, Nat.zero_add, List.set_append_left _ _ (by rw [hn]; exact hj)]
    | succ i =>
      simp only [List.getElem?_cons_succ] at h
      rw [List.flatMap_cons, List.set_cons_succ, List.flatMap_cons, ← ih i h, List.set_append_right _ _ (by rw [hn, Nat.succ_mul]; omega)]
      congr 2
      rw [hn, Nat.succ_mul]
      omega
theorem set_put {M : TreeT} (hn : (keys M).Nodup) {s : List UInt8} (h : s ∈ keys M) (n' : NodeT) : M.set (findN M s) (s, n') = mput M s n' := by
  induction M with
  | nil => simp at h
  | cons p M ih =>
    obtain ⟨q, n⟩ := p
    simp only [keys, List.map_cons, List.nodup_cons] at hn
    by_cases hp : q = s
    · subst hp
      have e : findN ((q, n) :: M) q = 0 := by simp [findN, List.findIdx_cons]
      rw [e, List.set_cons_zero, mput_head hn.1]
    · have hm : s ∈ keys M := by
        simp only [keys, List.map_cons, List.mem_cons] at h
        rcases h with h | h
        · exact absurd h.symm hp
        · exact h
      have e : findN ((q, n) :: M) s = findN M s + 1 := by simp [findN, List.findIdx_cons, hp]
      rw [e, List.set_cons_succ, ih hn.2 hm]
      obtain ⟨u, hu⟩ := mem_keys_mget.1 hm
      have hu2 : mget ((q, n) :: M) s = some u := by
        simp only [mget, List.find?_cons, hp, decide_false] at hu ⊢
        exact hu
      unfold mput
      rw [hu, hu2]
      simp [hp]
theorem entC_set1 (s d d' : List UInt8) (ve bl ow md st sr : Int) : entC (s, ⟨d', ve, bl, ow, md, st, sr⟩) = (entC (s, ⟨d, ve, bl, ow, md, st, sr⟩)).set 1 (.string (S d')) := rfl
theorem entC_set2 (s d : List UInt8) (ve ve' bl ow md st sr : Int) : entC (s, ⟨d, ve', bl, ow, md, st, sr⟩) = (entC (s, ⟨d, ve, bl, ow, md, st, sr⟩)).set 2 (.int .i64 ve') := rfl
theorem entC_set3 (s d : List UInt8) (ve bl bl' ow md st sr : Int) : entC (s, ⟨d, ve, bl', ow, md, st, sr⟩) = (entC (s, ⟨d, ve, bl, ow, md, st, sr⟩)).set 3 (.int .i64 bl') := rfl
theorem entC_set6 (s d : List UInt8) (ve bl ow md st st' sr : Int) : entC (s, ⟨d, ve, bl, ow, md, st', sr⟩) = (entC (s, ⟨d, ve, bl, ow, md, st, sr⟩)).set 6 (.int .i64 st') := rfl
theorem entC_set7 (s d : List UInt8) (ve bl ow md st sr sr' : Int) : entC (s, ⟨d, ve, bl, ow, md, st, sr'⟩) = (entC (s, ⟨d, ve, bl, ow, md, st, sr⟩)).set 7 (.int .i64 sr') := rfl
theorem flatE_len (M : TreeT) : (M.flatMap entC).length = M.length * 8 := flatK_len (n := 8) (fun _ => rfl) M

section
variable {g w : World} {L : List Asn} {b : Nat} {M : TreeT} {v : Value}
/-- a cell of the row of entries stored -/
theorem Sat.entSet {rb c n i : Nat} (S0 : Sat g w (rowA 71 8 (.slice (some ⟨rb, 0, none⟩) n c) n (M.flatMap entC) :: L)) (j : Nat) (p p' : List UInt8 × NodeT) (u : Value) (h : M[i]? = some p) (hj : j < 8) (hp : entC p' = (entC p).set j u) {o : Nat} (ho : o = i * 8 + j) :
    Sat g (w.setCell ⟨rb, o, none⟩ u) (rowA 71 8 (.slice (some ⟨rb, 0, none⟩) n c) n ((M.set i p').flatMap entC) :: L) := by
  subst ho
  have hi := (List.getElem?_eq_some_iff.1 h).1
  have := S0.rowSet (i * 8 + j) (by rw [flatE_len]; omega) u
  rwa [flat_set (n := 8) (fun _ => rfl) M i j p p' u h hj hp] at this
theorem getE {rb c n i : Nat} (S0 : Sat g w (rowA 71 8 (.slice (some ⟨rb, 0, none⟩) n c) n (M.flatMap entC) :: L)) {p : List UInt8 × NodeT} (h : M[i]? = some p) (j : Nat) (u : Value) (hu : (entC p)[j]? = some u) {o : Nat} (ho : o = i * 8 + j) : w.cell? ⟨rb, o, none⟩ = some u := by
  subst ho
  exact S0.row_at _ _ (flatK_at (f := entC) (n := 8) (fun _ => rfl) M i p h j u hu)

set_option maxRecDepth 100000 in
set_option maxHeartbeats 4000000 in
theorem set_mod (S0 : Sat g w (modA b M :: L)) (hG : GL w) (hl : M.length ≤ 1000000) (hn : (keys M).Nodup) (s data : List UInt8) (v when_ : Int) (hs : s.length ≤ 9223372036854775807) (hd : data.length ≤ 140737488350000) (hv : 0 ≤ (atF M s v).1.version ∧ (atF M s v).1.version ≤ 1000000) :
    Calls Tryz.prog 61 #[ptr b, .string (S s), .string (S data), .int .i64 v, .int .i64 when_] w fun e w' =>
      e = .returned (.tuple #[.int .i64 (setF M s data v when_).1, .int .i64 (setF M s data v when_).2.1]) ∧ Sat g w' (modA b (setF M s data v when_).2.2 :: L) := by
  have HR : Hid (∀ r, setF M s data v when_ = r → ∀ w', Sat g w' (modA b r.2.2 :: L) → Ending.returned (.tuple #[.int .i64 r.1, .int .i64 r.2.1]) = Ending.returned (.tuple #[.int .i64 (setF M s data v when_).1, .int .i64 (setF M s data v when_).2.1]) ∧ Sat g w' (modA b (setF M s data v when_).2.2 :: L)) :=
    hide fun r h w' S' => by subst h; exact ⟨rfl, S'⟩
  have HF : Hid (setF M s data v when_ = if (atF M s v).2 ≠ 0 then (0, (atF M s v).2, M) else if 60 < data.length then (0, 3, M) else
    ((atF M s v).1.version + 1, 0, mput M s ⟨data, (atF M s v).1.version + 1, (atF M s v).1.below, (atF M s v).1.owner, (atF M s v).1.made, when_, (atF M s v).1.serial⟩)) := rfl
  have HIN : Hid ((atF M s v).2 = 0 → s ∈ keys M ∧ mget M s = some (atF M s v).1) := hide fun h => by
    have h2 := at_get h
    have h3 : atF M s v = getF M s := by
      unfold atF at h ⊢
      split
      · rename_i hc; rw [if_pos hc] at h; simp at h
      · rfl
    rw [h3]
    unfold getF at h2 ⊢
    split at h2
    · rename_i hc
      rw [if_pos hc]
      cases hm : mget M s with
      | none => rw [hm] at h2; simp at h2
      | some n => exact ⟨mem_keys_mget.2 ⟨n, hm⟩, rfl⟩
    · rename_i hc
      exact absurd h2 hc
  have hat := check_mod S0 hG hl s v hs
  generalize setF M s data v when_ = R at *
  generalize atF M s v = AT at *
  obtain ⟨n0, e0⟩ := AT
  simp only at hat HF hv HIN
  have HN := hide hn
  clear hn hG
  go_enter Tryz.func61, Tryz.ntmps61
  go_wp2_with fail
  refine hat.mono ?_
  rintro e w1 ⟨rfl, S1⟩
  clear hat S0
  by_cases h0 : e0 = 0
  · subst h0
    obtain ⟨hin, hmg⟩ := HIN.out rfl
    by_cases h60 : 60 < data.length
    · have e : R = (0, 3, M) := by rw [HF.out, if_neg (by simp), if_pos h60]
      have HE := hide e
      clear e HF HIN hin hmg
      go_wp2_with fail
      go_ret2
      exact HR.out (0, 3, M) HE.out _ S1
    · have e : R = (n0.version + 1, 0, mput M s ⟨data, n0.version + 1, n0.below, n0.owner, n0.made, when_, n0.serial⟩) := by rw [HF.out, if_neg (by simp), if_neg h60]
      rw [← set_put HN.out hin] at e
      have HE := hide e
      clear e HF HIN
      obtain ⟨n1, h1, h2, h3⟩ := find_at hin
      obtain rfl : n1 = n0 := by rw [hmg] at h2; exact (Option.some.inj h2).symm
      have hff : findF M s = (findN M s : Int) := by unfold findF; rw [if_pos hin]
      have HFI : Hid (∀ {w : World} {A : Option Addr} {c : Nat} {L' : List Asn}, Sat g w (cellsA b 69 #[.slice A M.length c] :: rowA 71 8 (.slice A M.length c) M.length (M.flatMap entC) :: L') → Calls Tryz.prog 94 #[ptr b, .string (S s)] w fun e w' => e = .returned (.int .i64 (findN M s)) ∧ Sat g w' (cellsA b 69 #[.slice A M.length c] :: rowA 71 8 (.slice A M.length c) M.length (M.flatMap entC) :: L')) := hide fun S' => by
        have := find_open S' hl s
        rwa [hff] at this
      clear hff h2 hmg hin
      generalize findN M s = i at *
      have HAT := hide h1
      clear h1
      obtain ⟨d, ve, bl, ow, md, st, sr⟩ := n1
      simp only at HE hv
      obtain ⟨hv1, hv2⟩ := hv
      go_upto_region 6 with fail
      obtain ⟨A, c, S2⟩ := S1.modOpen
      have c0 := S2.cell 0 _ rfl
      obtain ⟨ad, -, rfl, -⟩ := ent_at S2.p1.srcT rfl h3
      obtain ⟨rb, rfl⟩ := S2.p1.row_zero
      have hi0 : (0 : Int) ≤ (i : Int) := by omega
      have hi1 : (i : Int) < (M.length : Int) := by omega
      clear S1
      go_region_held3 (fun w' => w'.cell? ⟨b, 0, none⟩ = some (.slice (some ⟨rb, 0, none⟩) M.length c)) (first
        | (go_keep; done)
        | exact S3.cell 0 _ rfl
        | exact S3.drew.cell 0 _ rfl
        | exact S2.cell 0 _ rfl
        | exact S2.drew.cell 0 _ rfl) (first
        | (go_at_call 94; refine (HFI.out (by (repeat (first | refine Sat.drew ?_ | refine Sat.drewN ?_ _)); exact S2)).mono ?_; rintro e w3 ⟨rfl, S3⟩; have c0 := S3.cell 0 _ rfl))
      all_goals
        clear HFI S2
        have f1 := S3.p1.row_fz (i * 8 + 1)
        have g1 := getE S3.p1 HAT.out 1 _ rfl (o := i * 8 + 1) rfl
        go_upto_region 8 with fail
        have S4 := S3.p1.entSet 1 (s, ⟨d, ve, bl, ow, md, st, sr⟩) (s, ⟨data, ve, bl, ow, md, st, sr⟩) (.string (S data)) HAT.out (by decide) (entC_set1 s d data ve bl ow md st sr) (o := i * 8 + 1) rfl
        generalize w3.setCell ⟨rb, i * 8 + 1, none⟩ (.string (S data)) = w4 at *
        have hat4 : (M.set i (s, ⟨data, ve, bl, ow, md, st, sr⟩))[i]? = some (s, ⟨data, ve, bl, ow, md, st, sr⟩) := by rw [List.getElem?_set_self h3]
        have HAT4 := hide hat4
        clear S3 f1 g1 hat4
        have g2 := getE S4 HAT4.out 2 _ rfl (o := i * 8 + 1 + 1) (by omega)
        have f2 := S4.row_fz (i * 8 + 1 + 1)
        go_upto_region 9 with fail
        have S5 := S4.entSet 2 (s, ⟨data, ve, bl, ow, md, st, sr⟩) (s, ⟨data, ve + 1, bl, ow, md, st, sr⟩) (.int .i64 (ve + 1)) HAT4.out (by decide) (entC_set2 s data ve (ve + 1) bl ow md st sr) (o := i * 8 + 1 + 1) (by omega)
        generalize w4.setCell ⟨rb, i * 8 + 1 + 1, none⟩ (.int .i64 (ve + 1)) = w5 at *
        rw [List.set_set] at S5
        have hat5 : (M.set i (s, ⟨data, ve + 1, bl, ow, md, st, sr⟩))[i]? = some (s, ⟨data, ve + 1, bl, ow, md, st, sr⟩) := by rw [List.getElem?_set_self h3]
        have HAT5 := hide hat5
        clear S4 f2 g2 hat5
        have g5 := getE S5 HAT5.out 6 _ rfl (o := i * 8 + 1 + 5) (by omega)
        have f5 := S5.row_fz (i * 8 + 1 + 5)
        go_upto_region 10 with fail
        have S6 := S5.entSet 6 (s, ⟨data, ve + 1, bl, ow, md, st, sr⟩) (s, ⟨data, ve + 1, bl, ow, md, when_, sr⟩) (.int .i64 when_) HAT5.out (by decide) (entC_set6 s data (ve + 1) bl ow md st when_ sr) (o := i * 8 + 1 + 5) (by omega)
        generalize w5.setCell ⟨rb, i * 8 + 1 + 5, none⟩ (.int .i64 when_) = w6 at *
        rw [List.set_set] at S6
        have hat6 : (M.set i (s, ⟨data, ve + 1, bl, ow, md, when_, sr⟩))[i]? = some (s, ⟨data, ve + 1, bl, ow, md, when_, sr⟩) := by rw [List.getElem?_set_self h3]
        clear S5 f5 g5
        have g2 := getE S6 hat6 2 _ rfl (o := i * 8 + 1 + 1) (by omega)
        have hle : M.length = (M.set i (s, ⟨data, ve + 1, bl, ow, md, when_, sr⟩)).length := by simp
        rw [hle] at S6
        have HS := hide (S6.p1.modShut)
        clear S6 hat6 hle
        go_wp2_with fail
        go_ret2
        exact HR.out (ve + 1, 0, M.set i (s, ⟨data, ve + 1, bl, ow, md, when_, sr⟩)) HE.out _ HS.out
  · have h0b : (e0 != 0) = true := by simpa using h0
    have e : R = (0, e0, M) := by rw [HF.out, if_pos h0]
    have HE := hide e
    clear e HF HIN
    go_wp2_with fail
    go_ret2
    exact HR.out (0, e0, M) HE.out _ S1
end
end Go.Proofs.YtecpfnobnpddaaaGreatDoor
