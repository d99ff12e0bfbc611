/- The law TreeReads, walked. No condition. -/
import Derived.Test.YtecpfnobnpddaaaDoorTRdW
import Derived.Test.YtecpfnobnpddaaaDoorTLay
import Derived.Test.YtecpfnobnpddaaaDoorTSame
set_option linter.unusedVariables false
set_option linter.unusedSimpArgs false
namespace Go.Proofs.YtecpfnobnpddaaaDoor
open Go.RowKit

theorem AscN.paths {m : TreeT} (h : AscN m) : PathsOk m := by
  intro p hp
  obtain ⟨h1, _⟩ := h.ok p.1 (List.mem_map.2 ⟨p, hp, rfl⟩)
  unfold checkF at h1
  split at h1
  · rename_i e; rw [e]; decide
  · split at h1
    · simp at h1
    · rename_i h2
      simp only [not_or] at h2
      omega
theorem getF_in {m : TreeT} {s : List UInt8} (h : s ∈ keys m) (hc : checkF s = 0) : ∃ n, getF m s = (n, 0) := by
  obtain ⟨n, hn⟩ := mem_keys_mget.1 h
  refine ⟨n, ?_⟩
  unfold getF
  rw [if_pos hc, hn]
theorem up_len (s : List UInt8) : (upF s).1.length ≤ s.length + 1 := by
  unfold upF
  split
  · simp
  · split
    · simp
    · simp; omega

set_option maxRecDepth 100000 in
set_option maxHeartbeats 8000000 in
theorem treads_walk (W : World) (hG : GL W) (s : List UInt8) (hs : s.length ≤ 9223372036854775807) :
    Calls Tryd.prog 9 #[.string (S s)] W fun e w' => e = .returned (.bool true) ∧ Keeps (fun _ => False) W w' := by
  have HGL : Hid (GL W) := hG
  go_enter Tryd.func9, Tryd.ntmps9
  go_wp2_with fail
  refine (head_tree (Sat.start W) hG (by simp)).mono ?_
  rintro e w0 ⟨rfl, S0⟩
  clear hG
  by_cases h3000 : 3000 < s.length
  · have HK := hide S0.keep_all
    clear S0
    go_wp2_with fail
    go_ret
    exact ⟨rfl, HK.out⟩
  · go_wp2_with fail
    refine (s_read S0 s hs).mono ?_
    rintro e w1 ⟨r, rfl, S1⟩
    have HL : Hid (∀ m, readTr (s, false) = (m, ([], false)) → layN m = s) := readTr_lay s
    obtain ⟨⟨HA, hml⟩, HF⟩ := readTr_asc (s, false)
    clear S0
    go_wp2_with fail
    refine (read_tree S1 HGL.out (by simp)).mono ?_
    rintro e w2 ⟨t, rfl, S2⟩
    clear S1
    generalize readTr (s, false) = R at *
    obtain ⟨m, yl, yf⟩ := R
    simp only at HF HL HA hml S2
    have HAO := hide HA
    have HFO := hide HF
    clear HA HF
    go_wp2_with fail
    refine (s_rdone S2.p1).mono ?_
    rintro e w3 ⟨rfl, S3⟩
    clear S2
    cases yf
    · by_cases hy : yl = []
      · subst hy
        have HLAY := hide (HL.out m rfl)
        clear HL HFO
        have e0 : rdone ([], false) = 0 := rfl
        go_wp2_with fail
        refine (paths_tree S3.p1 HAO.out.paths (by omega)).mono ?_
        rintro e w4 ⟨v, rfl, S4⟩
        obtain ⟨A, c, rfl, -⟩ := S4.row.form
        clear S3
        have HPM : Hid (∀ k p, (pathsF m)[k]? = some p → checkF p = 0 ∧ (p = [47] ∨ ∃ n, getF m (upF p).1 = (n, 0)) ∧ p.length ≤ 1000) := hide fun k p hp => by
          have hmem : p ∈ keys m := (sortB_perm _).mem_iff.1 (List.mem_of_getElem? hp)
          obtain ⟨h1, h2⟩ := HAO.out.ok p hmem
          refine ⟨h1, ?_, ?_⟩
          · rcases h2 with h2 | h2
            · exact .inl h2
            · exact .inr (getF_in h2 (HAO.out.ok _ h2).1)
          · obtain ⟨q, hq, e⟩ := List.mem_map.1 hmem
            have := HAO.out.paths q hq
            rw [e] at this
            exact this
        have hpl := pathsF_length m
        generalize pathsF m = PS at *
        go_wp2_with fail
        go_loopw [33] (fun i wr => ∃ k : Nat, k ≤ m.length ∧ i = .int .i64 k ∧ Sat W wr (rowA 9 1 (.slice A m.length c) m.length (Ss PS) :: treeA t m :: [oldA W])) (fun i _ => m.length + 1 - (RowKit.intOf i).toNat)
        case atStart => exact ⟨0, by omega, rfl, S4.p2.drop⟩
        case round =>
          obtain ⟨k, hk, rfl, S5⟩ := hrel
          clear S4
          by_cases hlt : k < m.length
          · have hk0 : (0 : Int) ≤ (k : Int) := by omega
            have hk1 : (k : Int) < (m.length : Int) := by omega
            obtain ⟨ad, p, rfl, hp, hc⟩ := str_at S5.srcT hlt
            obtain ⟨q1, q2, q3⟩ := HPM.out k p hp
            have Q1 := hide q1
            have hup := fun w => up_path w p (by omega)
            have hul := up_len p
            clear hp q1
            by_cases hroot : p = [47]
            · subst hroot
              clear q2
              rw [up_root] at hup
              have hg : getF m [] = (zN, 10) := by
                have : checkF [] = 10 := by decide
                unfold getF
                rw [if_neg (by rw [this]; decide), this]
              have HG := hide hg
              clear hg hul q3
              go_wp2_with fail
              refine (hup wr).mono ?_
              rintro e w5 ⟨rfl, hk5⟩
              have S6 := S5.keep hk5
              clear S5 hk5 hup hc
              go_wp2_with fail
              have hget := get_tree S6.p1 (HGL.out.at S6 (by simp)) [] (by decide)
              rw [HG.out] at hget
              refine hget.mono ?_
              rintro e w6 ⟨rfl, S7⟩
              clear hget S6
              go_upto_region 14 with fail
              have S8 := (S7.box (nodC zN) 30 rfl).drop
              generalize w6.alloc (.cells (nodC zN) 30) = w7 at *
              generalize w6.heap.size = nb at *
              clear S7
              have hch := check_path w7 [47] (by decide) (HGL.out.at S8 (by simp))
              rw [Q1.out] at hch
              go_wp2_with fail
              refine hch.mono ?_
              rintro e w8 ⟨rfl, hk8⟩
              have S9 := S8.keep hk8
              clear S8 hk8 hch
              go_wp2_with fail
              go_roundw
              case rel => exact ⟨k + 1, by omega, by go_num, S9.p1⟩
              case measure => simp [RowKit.intOf]; omega
            · have q2' : ∃ n, getF m (upF p).1 = (n, 0) := by
                rcases q2 with h | h
                · exact absurd h hroot
                · exact h
              obtain ⟨n, hg⟩ := q2'
              have HG := hide hg
              have hrb : (p == [47]) = false := by simpa using hroot
              clear q2 hroot hg
              generalize (upF p).1 = up at *
              generalize (upF p).2 = ul at *
              go_wp2_with fail
              refine (hup wr).mono ?_
              rintro e w5 ⟨rfl, hk5⟩
              have S6 := S5.keep hk5
              clear S5 hk5 hup hc
              go_wp2_with fail
              have hget := get_tree S6.p1 (HGL.out.at S6 (by simp)) up (by omega)
              rw [HG.out] at hget
              refine hget.mono ?_
              rintro e w6 ⟨rfl, S7⟩
              clear hget S6
              go_upto_region 14 with fail
              have S8 := (S7.box (nodC n) 30 rfl).drop
              generalize w6.alloc (.cells (nodC n) 30) = w7 at *
              generalize w6.heap.size = nb at *
              clear S7
              have hch := check_path w7 p (by omega) (HGL.out.at S8 (by simp))
              rw [Q1.out] at hch
              go_wp2_with fail
              refine hch.mono ?_
              rintro e w8 ⟨rfl, hk8⟩
              have S9 := S8.keep hk8
              clear S8 hk8 hch
              go_wp2_with fail
              go_roundw
              case rel => exact ⟨k + 1, by omega, by go_num, S9.p1⟩
              case measure => simp [RowKit.intOf]; omega
          · obtain rfl : k = m.length := by omega
            go_wp2_with fail
            refine (lay_tree S5.drop.bytesNil HAO.out.paths (by omega) (by simp)).mono ?_
            rintro e w5 ⟨v', rfl, S7⟩
            rw [HLAY.out, List.nil_append] at S7
            obtain ⟨A2, n2, cap, rfl, hsrc⟩ := S7.bytesForm
            have hconv := run_ofBytes (P := Tryd.prog) (dst := 9) Tryd.underlying42 Tryd.underlying5 Tryd.underlying9 hsrc cap
            have HK := hide S7.drop.drop.keep_all
            clear hsrc S5
            go_wp2_with fail
            go_ret
            exact ⟨rfl, HK.out⟩
      · have e0 : rdone (yl, false) = 2 := by simp [rdone, hy]
        clear hy HL HFO
        go_wp2_with fail
        refine (s_rok S3).mono ?_
        rintro e w4 ⟨rfl, S4⟩
        have HK := hide (S4.drop.drop.keep_all)
        clear S3 S4
        go_wp2_with fail
        go_ret
        exact ⟨rfl, HK.out⟩
    · obtain rfl := HFO.out rfl
      have e0 : rdone (yl, true) = 2 := by simp [rdone]
      clear HL HFO hml h3000
      rw [e0]
      clear e0
      go_wp2_with fail
      refine (s_rok S3).mono ?_
      rintro e w4 ⟨rfl, S4⟩
      clear S3
      go_wp2_with fail
      refine (new_tree S4).mono ?_
      rintro e w5 ⟨t2, rfl, S5⟩
      clear S4
      go_wp2_with fail
      have hsame := same_tree S5.p2
      have hst : sameT rootT [([47], zN)] = true := by decide
      rw [hst] at hsame
      clear S5 hst
      refine hsame.mono ?_
      rintro e w6 ⟨rfl, S6⟩
      have HK := hide S6.drop.drop.drop.keep_all
      clear S6 hsame
      go_wp2_with fail
      go_ret
      exact ⟨rfl, HK.out⟩
end Go.Proofs.YtecpfnobnpddaaaDoor
