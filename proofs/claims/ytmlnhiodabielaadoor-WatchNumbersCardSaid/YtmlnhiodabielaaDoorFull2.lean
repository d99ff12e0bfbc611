/- Memory in pieces, more: a cell of a row stored. No condition. -/
import Derived.Test.YtmlnhiodabielaaDoorFull
set_option linter.unusedVariables false
namespace Go.Proofs.YtmlnhiodabielaaDoor
open Go.RowKit

theorem Sat.rowSet {g w : World} {L : List Asn} {e : TypeId} {size n b cap : Nat} {xs : List Value} (S : Sat g w (rowA e size (.slice (some ⟨b, 0, none⟩) n cap) n xs :: L)) (i : Nat) (hi : i < xs.length) (v : Value) :
    Sat g (w.setCell ⟨b, i, none⟩ v) (rowA e size (.slice (some ⟨b, 0, none⟩) n cap) n (xs.set i v) :: L) :=
  S.step (F := fun k => k = b) ((Keeps.refl (fun k => k = b) w).setCell (p := ⟨b, i, none⟩) (fun _ => rfl) v) fun h a m => by
    obtain ⟨hl, a⟩ := a
    rcases a with ⟨h0, _⟩ | ⟨b', cap', cur, h0, q1, q2, q3, q4, rfl⟩
    · cases h0
    · injection h0 with h1 _ h2
      injection h1 with h1
      injection h1 with h1
      subst h1 h2
      have hb : w.heap[b]? = some (.cells cur e (0, 0)) := m b _ true (by simp [hone])
      refine ⟨fun k _ hk => ⟨_, by simp [hone, hk]; rfl⟩, hone b (.cells (cur.setIfInBounds i v) e (0, 0)) true, ⟨by simpa using hl, .inr ⟨b, cap, _, rfl, q1, q2, by simpa using q3, ?_, rfl⟩⟩, hone_mem (by simp [World.setCell, Array.getElem?_modify, hb]), fun k _ => ?_⟩
      · rw [Array.toList_setIfInBounds, ← q4, List.take_set]
      · by_cases hkb : k = b
        · exact .inr (.inr ⟨_, by simp [hone, hkb]; rfl⟩)
        · exact .inl (by simp [hone, hkb])
theorem Sat.row_fz {g w : World} {L : List Asn} {e : TypeId} {size n b cap : Nat} {xs : List Value} (S : Sat g w (rowA e size (.slice (some ⟨b, 0, none⟩) n cap) n xs :: L)) (i : Nat) : w.frozen? ⟨b, i, none⟩ = false := by
  rcases S.row.2 with ⟨h0, _⟩ | ⟨b', cap', cur, h0, _, hb, _⟩
  · cases h0
  · injection h0 with h1 _ h2
    injection h1 with h1
    injection h1 with h1
    subst h1
    simp [World.frozen?, hb]
theorem Sat.row_at {g w : World} {L : List Asn} {e : TypeId} {size n b cap : Nat} {xs : List Value} (S : Sat g w (rowA e size (.slice (some ⟨b, 0, none⟩) n cap) n xs :: L)) (i : Nat) (v : Value) (hv : xs[i]? = some v) : w.cell? ⟨b, i, none⟩ = some v := by
  have h := World.ownsRow.cells S.row (g := b) rfl i v hv
  have hadd : (⟨b, 0, none⟩ : Addr).add i = ⟨b, i, none⟩ := by unfold Addr.add; split <;> simp_all
  rw [hadd] at h
  exact h
theorem Sat.row_zero {g w : World} {L : List Asn} {e : TypeId} {size n cap : Nat} {ad : Addr} {xs : List Value} (S : Sat g w (rowA e size (.slice (some ad) n cap) n xs :: L)) : ∃ b, ad = ⟨b, 0, none⟩ := by
  rcases S.row.2 with ⟨h0, _⟩ | ⟨b', cap', cur, h0, _⟩
  · cases h0
  · injection h0 with h1 _ h2
    injection h1 with h1
    exact ⟨b', h1⟩

end Go.Proofs.YtmlnhiodabielaaDoor
