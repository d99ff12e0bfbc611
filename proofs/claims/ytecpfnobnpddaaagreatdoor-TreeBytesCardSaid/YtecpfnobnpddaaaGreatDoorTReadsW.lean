/- The law TreeReads, walked. No condition. -/
import Derived.Test.YtecpfnobnpddaaaGreatDoorTRdW
import Derived.Test.YtecpfnobnpddaaaGreatDoorTLay
import Derived.Test.YtecpfnobnpddaaaGreatDoorTSame
set_option linter.unusedVariables false
set_option linter.unusedSimpArgs false
namespace Go.Proofs.YtecpfnobnpddaaaGreatDoor
open Go.RowKit

theorem AscN.paths {m : TreeT} (h : AscN m) : PathsOk m := by
  intro p hp
  obtain ⟨h1, _⟩ := h.ok p.1 (List.mem_map.2 ⟨p, hp, rfl⟩)
  unfold checkF at h1
  split at h1
  · rename_i e; rw [e]; decide
  · split at h1
    · simp at h1
    · rename_i h2
      simp only [not_or] at h2
      omega
theorem getF_in {m : TreeT} {s : List UInt8} (h : s ∈ keys m) (hc : checkF s = 0) : ∃ n, getF m s = (n, 0) := by
  obtain ⟨n, hn⟩ := mem_keys_mget.1 h
  refine ⟨n, ?_⟩
  unfold getF
  rw [if_pos hc, hn]
theorem up_len (s : List UInt8) : (upF s).1.length ≤ s.length + 1 := by
  unfold upF
  split
  · simp
  · split
    · simp
    · simp; omega

end Go.Proofs.YtecpfnobnpddaaaGreatDoor
