/- What stays true of a book, behind m changes. No condition. -/
import Derived.Test.YtbfogieeiobpdaaGreatDoorWOrd
import Derived.Test.YtbfogieeiobpdaaGreatDoorBookE
set_option linter.unusedVariables false
set_option linter.unusedSimpArgs false
namespace Go.Proofs.YtbfogieeiobpdaaGreatDoor
open Go.RowKit

theorem nos_nil (N : Int) (h : 0 ≤ N) : NosOk [] N := fun k => by simp [mget]; exact h
/-- what stays true: m acts so far -/
structure InvW (B : BookT) (m : Nat) : Prop where
  sorted : SortedW B.ws
  ws : B.ws.length ≤ 40
  es : B.es.length ≤ 40 * m
  nos : NosOk B.nos (40 * m)
theorem InvW.nil : InvW ⟨[], [], []⟩ 0 := ⟨SortedW.nil, by simp, by simp, nos_nil _ (by omega)⟩
theorem add_inv {B : BookT} {m : Nat} (h : InvW B m) (x : WatT) : InvW (addF B x).2 m := by
  unfold addF
  split
  · exact h
  · split
    · exact h
    · split
      · exact h
      · split
        · exact h
        · rename_i h3 h4
          refine ⟨h.sorted.ins (fun hx => h3 ((there_iff h.sorted x).2 hx)), ?_, h.es, h.nos⟩
          have := low_le B.ws x
          simp
          omega
theorem fire_inv {B : BookT} {m : Nat} (h : InvW B m) (s : List UInt8) (what when_ : Int) : InvW (fireF B s what when_) (m + 1) := by
  obtain ⟨h1, h2⟩ := notes_ok s what when_ B.ws (B.es, B.nos) h.nos
  have h3 := h.ws
  have h4 := h.es
  have h5 := List.length_filter_le (fun x => !firesP s what x) B.ws
  simp only at h2
  exact ⟨h.sorted.filter _, by simp only [fireF]; omega, by simp only [fireF]; omega, h1.mono (by omega)⟩
theorem noted_inv {B : BookT} {m : Nat} (h : InvW B m) (ss no : Int) : InvW (notedF B ss no) m := by
  have h5 := List.length_filter_le (fun x : EvT => !decide (x.session = ss ∧ x.no ≤ no)) B.es
  exact ⟨h.sorted, h.ws, Nat.le_trans h5 h.es, h.nos⟩
theorem nos_del {nos : List (Int × Int)} {N : Int} (h : NosOk nos N) (h0 : 0 ≤ N) (k : Int) : NosOk (mdel nos k) N := by
  intro j
  rw [mget_mdel]
  split
  · simp; exact h0
  · exact h j
theorem drop_inv {B : BookT} {m : Nat} (h : InvW B m) (ss : Int) : InvW (dropF B ss) m := by
  have h4 := List.length_filter_le (fun x : WatT => !decide (x.session = ss)) B.ws
  have h5 := List.length_filter_le (fun x : EvT => !decide (x.session = ss)) B.es
  exact ⟨h.sorted.filter _, Nat.le_trans h4 h.ws, Nat.le_trans h5 h.es, nos_del h.nos (by omega) ss⟩
theorem InvW.mono {B : BookT} {m n : Nat} (h : InvW B m) (hm : m ≤ n) : InvW B n := ⟨h.sorted, h.ws, by have := h.es; omega, h.nos.mono (by omega)⟩

end Go.Proofs.YtbfogieeiobpdaaGreatDoor
