/- The law TreeBelows: what an act adds to a node's counter; the law, walked. No condition. -/
import Derived.Test.YtecpfnobnpddaaaDoorTDo
set_option linter.unusedVariables false
set_option linter.unusedSimpArgs false
namespace Go.Proofs.YtecpfnobnpddaaaDoor
open Go.RowKit

theorem kidM_len (M : TreeT) (s : List UInt8) : (kidM M s).length = (keys M).countP fun k => decide ((upF k).1 = s ∧ k ≠ [47]) := by
  unfold kidM
  rw [List.length_map, ← List.countP_eq_length_filter, List.countP_map]
  rfl
theorem mget_consT (p : List UInt8 × NodeT) (r : TreeT) (k : List UInt8) : mget (p :: r) k = if p.1 = k then some p.2 else mget r k := by
  unfold mget
  by_cases h : p.1 = k <;> simp [List.find?_cons, h]
/-- what an act leaves of a node's counter -/
def BelowStep (M M' : TreeT) (p : List UInt8) : Prop :=
  (p ∉ keys M → ∀ v', mget M' p = some v' → v'.below = 0) ∧ (∀ v v', mget M p = some v → mget M' p = some v' → v'.below = v.below + if (kidM M' p).length = (kidM M p).length then 0 else 1)
theorem BelowStep.refl (M : TreeT) (p : List UInt8) : BelowStep M M p := by
  refine ⟨fun h v' hv => absurd (mem_keys_mget.2 ⟨v', hv⟩) h, fun v v' h1 h2 => ?_⟩
  rw [h1] at h2
  obtain rfl := Option.some.inj h2
  simp
theorem Mod.below {T M : TreeT} {n : Nat} (h : Mod T M n) (hn : n < 1000) (a : ActT) (w : Int) (p : List UInt8) : BelowStep M (doM M a w) p := by
  unfold doM
  split
  · by_cases h0 : (Go.Proofs.YtecpfnobnpddaaaDoor.createF M (pathA a) a.data (ownA a) w a.serial).2.1 = 0
    · obtain ⟨b, nm, m1, m2, m3, m4, m5, m6, m7, m8, m9, m10⟩ := createF_ok h0
      have e : (createM M (pathA a) a.data (ownA a) w a.serial).2.2 = insN (mput M (upF (pathA a)).1 (moreN b a.serial)) nm (newN a.data (ownA a) w) := by
        unfold createM
        rw [m10, if_pos rfl, m1]
        rfl
      rw [e]
      have hup : (upF (pathA a)).1 ∈ keys M := mem_keys_mget.2 ⟨b, m1⟩
      have hk1 : keys (mput M (upF (pathA a)).1 (moreN b a.serial)) = keys M := by rw [keys_mput, if_pos hup]
      have hnm : nm ∉ keys M := mget_none.1 m8
      have hbo := h.at_ m1
      have hunm : (upF nm).1 = (upF (pathA a)).1 ∧ nm ≠ [47] := by
        rw [m6]
        split
        · exact up_serial m3 m4 hbo.2.2.2.2.1 (by have := hbo.2.2.2.2.2.1; omega)
        · exact ⟨rfl, m4⟩
      have hpm := insN_perm (mput M (upF (pathA a)).1 (moreN b a.serial)) nm (newN a.data (ownA a) w)
      have hnd : (keys ((nm, newN a.data (ownA a) w) :: mput M (upF (pathA a)).1 (moreN b a.serial))).Nodup := by
        simp only [keys, List.map_cons, List.nodup_cons]
        exact ⟨by show nm ∉ keys _; rw [hk1]; exact hnm, by show (keys _).Nodup; rw [hk1]; exact h.nodup⟩
      have hget : ∀ k, mget (insN (mput M (upF (pathA a)).1 (moreN b a.serial)) nm (newN a.data (ownA a) w)) k = if nm = k then some (newN a.data (ownA a) w) else if k = (upF (pathA a)).1 then some (moreN b a.serial) else mget M k := by
        intro k
        rw [mget_perm hpm hnd, mget_consT, mget_mput]
      have hlen : (kidM (insN (mput M (upF (pathA a)).1 (moreN b a.serial)) nm (newN a.data (ownA a) w)) p).length = (kidM M p).length + if (upF (pathA a)).1 = p then 1 else 0 := by
        have hk2 : List.map (fun x => x.1) (mput M (upF (pathA a)).1 (moreN b a.serial)) = keys M := hk1
        rw [kidM_len, kidM_len, (hpm.map (·.1)).countP_eq, List.map_cons, List.countP_cons, hk2, hunm.1]
        simp [hunm.2]
      rw [BelowStep, hlen, hget]
      refine ⟨fun hp v' hv => ?_, fun v v' h1 h2 => ?_⟩
      · split at hv
        · obtain rfl := Option.some.inj hv
          rfl
        · split at hv
          · rename_i e2
            exact absurd (e2 ▸ hup) hp
          · exact absurd (mem_keys_mget.2 ⟨v', hv⟩) hp
      · have hpin : p ∈ keys M := mem_keys_mget.2 ⟨v, h1⟩
        have hnp : ¬ nm = p := fun e2 => hnm (e2 ▸ hpin)
        rw [if_neg hnp] at h2
        by_cases hpu : p = (upF (pathA a)).1
        · rw [if_pos hpu] at h2
          rw [hpu, m1] at h1
          obtain rfl := Option.some.inj h1
          obtain rfl := Option.some.inj h2
          rw [if_pos hpu.symm, if_neg (by omega)]
          rfl
        · rw [if_neg hpu, h1] at h2
          obtain rfl := Option.some.inj h2
          have hq : ¬ (upF (pathA a)).1 = p := fun e2 => hpu e2.symm
          simp [hq]
    · have e : createM M (pathA a) a.data (ownA a) w a.serial = Go.Proofs.YtecpfnobnpddaaaDoor.createF M (pathA a) a.data (ownA a) w a.serial := by
        unfold createM
        rw [if_neg h0]
      rw [e, createF_bad h0]
      exact BelowStep.refl M p
  · split
    · unfold setF
      split
      · exact BelowStep.refl M p
      · split
        · exact BelowStep.refl M p
        · rename_i h0 _
          simp only [ne_eq, Decidable.not_not] at h0
          obtain ⟨hin, _⟩ := h.at_in h0
          have hmg : mget M (pathA a) = some (Go.Proofs.YtecpfnobnpddaaaDoor.atF M (pathA a) (verA a)).1 := by
            have h2 := at_get h0
            have h3 : Go.Proofs.YtecpfnobnpddaaaDoor.atF M (pathA a) (verA a) = Go.Proofs.YtecpfnobnpddaaaDoor.getF M (pathA a) := by
              unfold Go.Proofs.YtecpfnobnpddaaaDoor.atF at h0 ⊢
              split
              · rename_i hc; rw [if_pos hc] at h0; simp at h0
              · rfl
            rw [h3]
            unfold Go.Proofs.YtecpfnobnpddaaaDoor.getF at h2 ⊢
            split at h2
            · rename_i hc
              rw [if_pos hc]
              cases hm : mget M (pathA a) with
              | none => rw [hm] at h2; simp at h2
              | some b => rfl
            · rename_i hc
              exact absurd h2 hc
          generalize (Go.Proofs.YtecpfnobnpddaaaDoor.atF M (pathA a) (verA a)).1 = b at *
          simp only
          rw [BelowStep, kidM_len, kidM_len, keys_mput, if_pos hin, mget_mput]
          refine ⟨fun hp v' hv => ?_, fun v v' h1 h2 => ?_⟩
          · split at hv
            · rename_i e2; exact absurd (e2 ▸ hin) hp
            · exact absurd (mem_keys_mget.2 ⟨v', hv⟩) hp
          · rw [if_pos rfl]
            split at h2
            · rename_i e2
              rw [e2, hmg] at h1
              obtain rfl := Option.some.inj h1
              obtain rfl := Option.some.inj h2
              simp
            · rw [h1] at h2
              obtain rfl := Option.some.inj h2
              simp
    · split
      · unfold deleteF
        by_cases h0 : (Go.Proofs.YtecpfnobnpddaaaDoor.atF M (pathA a) (verA a)).2 = 0
        · have hz : ¬ ((Go.Proofs.YtecpfnobnpddaaaDoor.atF M (pathA a) (verA a)).2 ≠ 0) := by simp [h0]
          rw [if_neg hz]
          by_cases h47 : pathA a = [47]
          · rw [if_pos h47]
            exact BelowStep.refl M p
          · rw [if_neg h47]
            by_cases hk : kidL M (pathA a) = []
            · have hz1 : ¬ kidL M (pathA a) ≠ [] := by simp [hk]
              rw [if_neg hz1]
              obtain ⟨hin, -⟩ := h.at_in h0
              have hup : (upF (pathA a)).1 ∈ keys M := by
                rcases (h.ok _ hin).2 with e | e
                · exact absurd e h47
                · exact e
              obtain ⟨b, hb⟩ := mem_keys_mget.1 hup
              rw [hb]
              have hk1 : keys (mput M (upF (pathA a)).1 (lessN b)) = keys M := by rw [keys_mput, if_pos hup]
              have hnd : (keys (mput M (upF (pathA a)).1 (lessN b))).Nodup := by rw [hk1]; exact h.nodup
              obtain ⟨c, hc⟩ := mem_keys_mget.1 (show pathA a ∈ keys (mput M (upF (pathA a)).1 (lessN b)) by rw [hk1]; exact hin)
              have hpm := mdel_perm hnd (mget_mem hc)
              have hlen : (kidM M p).length = (kidM (mdel (mput M (upF (pathA a)).1 (lessN b)) (pathA a)) p).length + if (upF (pathA a)).1 = p then 1 else 0 := by
                have h1 := (hpm.map (·.1)).countP_eq (fun k => decide ((upF k).1 = p ∧ k ≠ [47]))
                rw [List.map_cons, List.countP_cons] at h1
                rw [kidM_len, kidM_len, ← hk1]
                refine h1.trans ?_
                simp [h47]
              simp only [Option.getD_some]
              rw [BelowStep, hlen, mget_mdel, mget_mput]
              refine ⟨fun hp v' hv => ?_, fun v v' h1 h2 => ?_⟩
              · split at hv
                · cases hv
                · split at hv
                  · rename_i e2
                    exact absurd (e2 ▸ hup) hp
                  · exact absurd (mem_keys_mget.2 ⟨v', hv⟩) hp
              · split at h2
                · cases h2
                · split at h2
                  · rename_i e2
                    rw [e2, hb] at h1
                    obtain rfl := Option.some.inj h1
                    obtain rfl := Option.some.inj h2
                    rw [if_pos e2.symm, if_neg (by omega)]
                    rfl
                  · rename_i e2
                    rw [h1] at h2
                    obtain rfl := Option.some.inj h2
                    have hq : ¬ (upF (pathA a)).1 = p := fun e3 => e2 e3.symm
                    simp [hq]
            · have hz1 : kidL M (pathA a) ≠ [] := hk
              rw [if_pos hz1]
              exact BelowStep.refl M p
        · rw [if_pos h0]
          exact BelowStep.refl M p
      · exact BelowStep.refl M p
end Go.Proofs.YtecpfnobnpddaaaDoor
