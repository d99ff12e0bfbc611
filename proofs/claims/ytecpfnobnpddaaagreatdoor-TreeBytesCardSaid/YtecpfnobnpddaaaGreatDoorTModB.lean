/- The model of the statements of layer 9: Check, Kids, Set. No condition. -/
import Derived.Test.YtecpfnobnpddaaaGreatDoorTModA
set_option linter.unusedVariables false
set_option linter.unusedSimpArgs false
namespace Go.Proofs.YtecpfnobnpddaaaGreatDoor
open Go.RowKit

theorem find_at {M : TreeT} {s : List UInt8} (h : s ∈ keys M) : ∃ n, M[findN M s]? = some (s, n) ∧ mget M s = some n ∧ findN M s < M.length := by
  induction M with
  | nil => simp at h
  | cons p M ih =>
    obtain ⟨q, n⟩ := p
    by_cases hp : q = s
    · subst hp
      have e : findN ((q, n) :: M) q = 0 := by simp [findN, List.findIdx_cons]
      exact ⟨n, by rw [e]; rfl, by simp [mget], by rw [e]; simp⟩
    · have hm : s ∈ keys M := by
        simp only [keys, List.map_cons, List.mem_cons] at h
        rcases h with h | h
        · exact absurd h.symm hp
        · exact h
      obtain ⟨n', h1, h2, h3⟩ := ih hm
      have e : findN ((q, n) :: M) s = findN M s + 1 := by simp [findN, List.findIdx_cons, hp]
      refine ⟨n', by rw [e]; simpa using h1, ?_, by rw [e]; simp; omega⟩
      simp only [mget, List.find?_cons, hp, decide_false] at h2 ⊢
      exact h2

section
variable {g w : World} {L : List Asn} {b : Nat} {M : TreeT} {v : Value}
set_option maxRecDepth 100000 in
set_option maxHeartbeats 4000000 in
theorem check_mod (S0 : Sat g w (modA b M :: L)) (hG : GL w) (hl : M.length ≤ 1000000) (s : List UInt8) (v : Int) (hs : s.length ≤ 9223372036854775807) :
    Calls Tryz.prog 65 #[ptr b, .string (S s), .int .i64 v] w fun e w' => e = .returned (.int .i64 (atF M s v).2) ∧ Sat g w' (modA b M :: L) := by
  have hch := check_path w s hs hG
  have HF : Hid ((atF M s v).2 = if checkF s = 0 then (match mget M s with | some n => if 0 ≤ v ∧ n.version ≠ v then 14 else 0 | none => 11) else checkF s) := hide (by
    unfold atF getF
    by_cases hc : checkF s = 0
    · rw [if_pos hc, if_pos hc]
      cases mget M s with
      | none => rw [if_neg (by simp)]
      | some n =>
        by_cases hv : 0 ≤ v ∧ n.version ≠ v
        · simp [hv]
        · simp only [true_and]
          rw [if_neg hv, if_neg hv]
    · rw [if_neg hc, if_neg hc, if_neg (fun h => hc h.1)])
  generalize (atF M s v).2 = R at *
  have hcc := check_cases s
  generalize checkF s = C at *
  go_enter Tryz.func65, Tryz.ntmps65
  go_wp2_with fail
  refine hch.mono ?_
  rintro e w1 ⟨rfl, hk1⟩
  have S1 := S0.keep hk1
  clear S0 hk1 hch hG
  rcases hcc with rfl | rfl
  · have hfi := find_mod S1 hl s
    by_cases hin : s ∈ keys M
    · obtain ⟨n, h1, h2, h3⟩ := find_at hin
      have hff : findF M s = (findN M s : Int) := by unfold findF; rw [if_pos hin]
      rw [hff] at hfi
      have HF2 : Hid (R = if 0 ≤ v ∧ n.version ≠ v then 14 else 0) := hide (by rw [HF.out, if_pos rfl, h2])
      clear HF hff h2 hin
      generalize findN M s = i at *
      go_wp2_with fail
      refine hfi.mono ?_
      rintro e w2 ⟨rfl, S2⟩
      clear hfi S1
      obtain ⟨A, c, S3⟩ := S2.modOpen
      have c0 := S3.cell 0 _ rfl
      obtain ⟨ad, p, rfl, hp, d0, d1, d2, d3, d4, d5, d6, d7⟩ := ent_at S3.p1.srcT rfl h3
      obtain rfl : p = (s, n) := by rw [h1] at hp; exact (Option.some.inj hp).symm
      have hi0 : (0 : Int) ≤ (i : Int) := by omega
      have hi1 : (i : Int) < (M.length : Int) := by omega
      clear hp h1 S3
      by_cases hv : 0 ≤ v
      · by_cases hne : n.version = v
        · have e : R = 0 := by rw [HF2.out, if_neg (fun h => h.2 hne)]
          subst e
          have hb1 : (n.version != v) = false := by simpa using hne
          have hb2 : (n.version == v) = true := by simpa using hne
          clear HF2 hne
          go_wp2_with fail
          go_ret
          exact ⟨rfl, S2⟩
        · have e : R = 14 := by rw [HF2.out, if_pos ⟨hv, hne⟩]
          subst e
          have hb1 : (n.version != v) = true := by simpa using hne
          have hb2 : (n.version == v) = false := by simpa using hne
          clear HF2 hne
          go_wp2_with fail
          go_ret
          exact ⟨rfl, S2⟩
      · have e : R = 0 := by rw [HF2.out, if_neg (fun h => hv h.1)]
        subst e
        have hb : decide (0 ≤ v) = false := by simpa using hv
        clear HF2
        go_wp2_with fail
        go_ret
        exact ⟨rfl, S2⟩
    · have hff : findF M s = -1 := by unfold findF; rw [if_neg hin]
      rw [hff] at hfi
      have e : R = 11 := by rw [HF.out, if_pos rfl, mget_none.2 hin]
      subst e
      clear HF hff hin
      go_wp2_with fail
      refine hfi.mono ?_
      rintro e w2 ⟨rfl, S2⟩
      clear hfi S1
      go_wp2_with fail
      go_ret
      exact ⟨rfl, S2⟩
  · have e : R = 10 := by rw [HF.out, if_neg (by decide)]
    subst e
    clear HF
    go_wp2_with fail
    go_ret
    exact ⟨rfl, S1⟩

/-- those below s, in the model's order -/
def kidM (M : TreeT) (s : List UInt8) : List (List UInt8) := (M.filter fun p => decide ((upF p.1).1 = s ∧ p.1 ≠ [47])).map fun p => (upF p.1).2
theorem kidM_eq (M : TreeT) {s : List UInt8} (hs : s ≠ []) : kidM M s = kidL M s := by
  unfold kidM kidL
  congr 1
  apply List.filter_congr
  intro p _
  by_cases h : p.1 = [47]
  · rw [h, up_root]
    simp [hs.symm]
  · simp [h]
theorem kidM_succ (M : TreeT) (s : List UInt8) (k : Nat) (p : List UInt8 × NodeT) (h : M[k]? = some p) :
    kidM (M.take (k + 1)) s = kidM (M.take k) s ++ if (upF p.1).1 = s ∧ p.1 ≠ [47] then [(upF p.1).2] else [] := by
  unfold kidM
  rw [take_filter_succ _ _ k p h, List.map_append]
  congr 1
  by_cases hc : (upF p.1).1 = s ∧ p.1 ≠ [47]
  · simp [hc]
  · simp [hc]
theorem kidM_le (M : TreeT) (s : List UInt8) : (kidM M s).length ≤ M.length := by
  unfold kidM
  rw [List.length_map]
  exact List.length_filter_le _ _

set_option maxRecDepth 100000 in
set_option maxHeartbeats 4000000 in
theorem kids_mod (S0 : Sat g w (modA b M :: L)) (hl : M.length ≤ 1000000) (hP : PathsOk M) (s : List UInt8) :
    Calls Tryz.prog 27 #[ptr b, .string (S s)] w fun e w' => ∃ v, e = .returned v ∧ Sat g w' (rowA 9 1 v (kidM M s).length (Ss (kidM M s)) :: modA b M :: L) := by
  obtain ⟨A, c, S1⟩ := S0.modOpen
  have HK : Hid (∀ (k : Nat) (p : List UInt8 × NodeT), M[k]? = some p → kidM (M.take (k + 1)) s = kidM (M.take k) s ++ if (upF p.1).1 = s ∧ p.1 ≠ [47] then [(upF p.1).2] else []) := hide fun k p h => kidM_succ M s k p h
  have HP : Hid (∀ (k : Nat) (p : List UInt8 × NodeT), M[k]? = some p → p.1.length ≤ 1000) := hide fun k p h => hP p (List.mem_of_getElem? h)
  have HT : Hid (kidM (M.take M.length) s = kidM M s) := hide (by rw [List.take_length])
  have HLE : Hid (∀ k, (kidM (M.take k) s).length ≤ 1000000) := hide fun k => by
    have h1 := kidM_le (M.take k) s
    have h2 : (M.take k).length ≤ M.length := by simp; omega
    omega
  clear S0 hP
  go_enter Tryz.func27, Tryz.ntmps27
  go_upto_region 2 with fail
  have S2 := Sat.rowOf (S1.box #[] 9 rfl) 1 0 rfl (by decide)
  generalize w.alloc (.cells #[] 9) = w2 at *
  generalize w.heap.size = ob at *
  clear S1
  have c0 := S2.p1.cell 0 _ rfl
  go_wp2_with fail
  clear c0
  go_loopw [5, 16] (fun u i wr => ∃ k : Nat, k ≤ M.length ∧ i = .int .i64 k ∧ Sat g wr (rowA 9 1 u (kidM (M.take k) s).length (Ss (kidM (M.take k) s)) :: cellsA b 69 #[.slice A M.length c] :: rowA 71 8 (.slice A M.length c) M.length (M.flatMap entC) :: L)) (fun _ i _ => M.length + 1 - (RowKit.intOf i).toNat)
  case atStart => exact ⟨0, by omega, rfl, S2⟩
  case round =>
    obtain ⟨k, hk, rfl, S3⟩ := hrel
    clear S2
    by_cases hlt : k < M.length
    · have hk0 : (0 : Int) ≤ (k : Int) := by omega
      have hk1 : (k : Int) < (M.length : Int) := by omega
      obtain ⟨ad, p, rfl, hp, d0, d1, d2, d3, d4, d5, d6, d7⟩ := ent_at S3.p2.srcT rfl hlt
      have hs2 := HK.out k p hp
      have hpl := HP.out k p hp
      have hle := HLE.out k
      have HS2 := hide hs2
      clear hp hs2
      obtain ⟨B2, c2, rfl, -⟩ := S3.row.form
      generalize kidM (M.take k) s = KS at *
      go_upto_region 5 with fail
      have S4 := S3.box (entA p) 71 rfl
      generalize wr.alloc (.cells (entA p) 71) = w3 at *
      generalize wr.heap.size = xb at *
      have x0 := S4.cell 0 _ rfl
      clear S3 d0 d1 d2 d3 d4 d5 d6 d7
      go_wp2_with fail
      refine (up_path w3 p.1 (by omega)).mono ?_
      rintro e w4 ⟨rfl, hk4⟩
      have S5 := S4.keep hk4
      have x0 := S5.cell 0 _ rfl
      clear S4 hk4
      by_cases hu : (upF p.1).1 = s
      · by_cases hr : p.1 = [47]
        · have hs2 := HS2.out
          rw [if_neg (fun h => h.2 hr), List.append_nil] at hs2
          have HS3 := hide hs2
          have hub : ((upF p.1).1 == s) = true := by simpa using hu
          have hrb : (p.1 == [47]) = true := by simpa using hr
          clear HS2 hs2 hu hr
          generalize (upF p.1).1 = up at *
          generalize (upF p.1).2 = ul at *
          go_wp2_with fail
          go_roundw
          case rel => exact ⟨k + 1, by omega, by go_num, by rw [HS3.out]; exact S5.drop⟩
          case measure => simp [RowKit.intOf]; omega
        · have hs2 := HS2.out
          rw [if_pos ⟨hu, hr⟩] at hs2
          have HS3 := hide hs2
          have hub : ((upF p.1).1 == s) = true := by simpa using hu
          have hrb : (p.1 == [47]) = false := by simpa using hr
          clear HS2 hs2 hu hr
          generalize (upF p.1).1 = up at *
          generalize (upF p.1).2 = ul at *
          go_wp2_with (at_builtin; refine wpList_sapp slStr rfl (.tmp 34) (.tmp 36) rfl (g := g) (S := (S5.box #[.string (S ul)] 9 rfl).p2) rfl (Src.block (heap_alloc_new _ _) 1 1 rfl) rfl (by simp [Value.oneCell']) (by unfold maxLen; omega) (by omega) ?_; intro A5 c5 w7 S10)
          go_roundw
          case rel =>
            refine ⟨k + 1, by omega, by go_num, ?_⟩
            rw [HS3.out]
            have := S10.p1.drop.p1.drop
            simpa [Ss] using this
          case measure => simp [RowKit.intOf]; omega
      · have hs2 := HS2.out
        rw [if_neg (fun h => hu h.1), List.append_nil] at hs2
        have HS3 := hide hs2
        have hub : ((upF p.1).1 == s) = false := by simpa using hu
        clear HS2 hs2 hu
        generalize (upF p.1).1 = up at *
        generalize (upF p.1).2 = ul at *
        go_wp2_with fail
        go_roundw
        case rel => exact ⟨k + 1, by omega, by go_num, by rw [HS3.out]; exact S5.drop⟩
        case measure => simp [RowKit.intOf]; omega
    · obtain rfl : k = M.length := by omega
      rw [HT.out] at S3
      have HS := hide (S3.b2.modShut.p1)
      clear S3
      go_wp2_with fail
      go_ret
      exact ⟨_, rfl, HS.out⟩
end
end Go.Proofs.YtecpfnobnpddaaaGreatDoor
