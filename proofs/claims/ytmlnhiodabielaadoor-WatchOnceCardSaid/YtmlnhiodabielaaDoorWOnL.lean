/- The statement WatchOnce: its walk. No condition. -/
import Derived.Test.YtmlnhiodabielaaDoorWAll
set_option linter.unusedVariables false
set_option linter.unusedSimpArgs false
namespace Go.Proofs.YtmlnhiodabielaaDoor
open Go.RowKit

/-! ### plain -/
theorem cut_name (k : Nat) (t : List UInt8) : cutL 47 (nameP k ++ 47 :: t) = nameP k :: cutL 47 t := by
  unfold nameP
  split <;> simp [cutL]
theorem cut_name0 (k : Nat) : cutL 47 (nameP k) = [nameP k] := by
  unfold nameP
  split <;> simp [cutL]
theorem name_ok (k : Nat) : partF (nameP k) = true := by
  unfold nameP
  split <;> decide
theorem cut_body (l : List Int) (a : Int) : (cutL 47 (nameP (pid a) ++ bodyP l)).all partF = true := by
  induction l generalizing a with
  | nil =>
    have : bodyP [] = [] := rfl
    rw [this, List.append_nil, cut_name0]
    simp [name_ok]
  | cons b r ih =>
    have : bodyP (b :: r) = 47 :: (nameP (pid b) ++ bodyP r) := by simp [bodyP]
    rw [this, cut_name, List.all_cons, ih, name_ok]
    rfl
theorem made_ok (l : List Int) (h : l.length ≤ 12) : checkF (madeP l) = 0 := by
  cases l with
  | nil => rfl
  | cons a r =>
    have hb : bodyP (a :: r) = 47 :: (nameP (pid a) ++ bodyP r) := by simp [bodyP]
    have hn : bodyP (a :: r) ≠ [] := by rw [hb]; simp
    have hm : madeP (a :: r) = 47 :: (nameP (pid a) ++ bodyP r) := by unfold madeP; rw [if_neg hn, hb]
    have hl := madeP_le (a :: r)
    have hne : nameP (pid a) ++ bodyP r ≠ [] := by
      intro e
      have := name_ok (pid a)
      rw [(List.append_eq_nil_iff.1 e).1] at this
      exact absurd this (by decide)
    unfold checkF
    rw [hm] at hl ⊢
    rw [if_neg (fun e => hne (by injection e)), if_neg (by
      simp only [not_or]
      exact ⟨by omega, by simp⟩)]
    rw [List.drop_succ_cons, List.drop_zero, cut_body, if_pos rfl]

def whatF (n : Int) : Int := 1 + (bits .and .i64 n 3) % 3
theorem what_le (n : Int) : 1 ≤ whatF n ∧ whatF n ≤ 3 := by
  have := and_le n 3 (by decide)
  unfold whatF
  omega
/-- one watch, and what it heard -/
structure OneW (x : WatT) (B : BookT) (want : List EvT) : Prop where
  ws : B.ws = if x.once = true ∧ want ≠ [] then [] else [x]
  es : B.es = want
  no : ∀ k, (mget B.nos k).getD 0 = if k = x.session then (want.length : Int) else 0
theorem one_add (x : WatT) (h1 : 1 ≤ x.session) (h2 : x.session ≤ 281474976710655) (hp : checkF x.path = 0) : addF ⟨[], [], []⟩ x = (0, ⟨[x], [], []⟩) := by
  unfold addF
  rw [if_neg (by omega), if_neg (by simp [hp])]
  simp [thereF, lowF]
theorem one_nil (x : WatT) : OneW x ⟨[x], [], []⟩ [] := ⟨by simp, rfl, fun k => by simp [mget]⟩
def moreF (x : WatT) (s : List UInt8) (what when_ : Int) (want : List EvT) : List EvT :=
  if (hearsF x s what).2 = true ∧ (x.once = false ∨ want = []) then want ++ [⟨x.session, (want.length : Int) + 1, x.path, (hearsF x s what).1, when_⟩] else want
theorem one_fire {x : WatT} {B : BookT} {want : List EvT} (h : OneW x B want) (s : List UInt8) (what when_ : Int) : OneW x (fireF B s what when_) (moreF x s what when_ want) := by
  obtain ⟨ws, es, nos⟩ := B
  obtain ⟨h1, h2, h3⟩ := h
  simp only at h1 h2 h3
  subst h2
  unfold moreF fireF
  by_cases hon : x.once = true ∧ es ≠ []
  · rw [if_pos hon] at h1
    subst h1
    rw [if_neg (by rintro ⟨_, h | h⟩; · rw [hon.1] at h; cases h
                   · exact hon.2 h)]
    exact ⟨by simp [hon], rfl, h3⟩
  · rw [if_neg hon] at h1
    subst h1
    have hc : x.once = false ∨ es = [] := by
      cases ho : x.once with
      | false => exact .inl rfl
      | true => exact .inr (Classical.byContradiction fun h => hon ⟨ho, h⟩)
    by_cases hh : (hearsF x s what).2 = true
    · rw [if_pos ⟨hh, hc⟩]
      have hno : (mget nos x.session).getD 0 = (es.length : Int) := by rw [h3, if_pos rfl]
      refine ⟨?_, ?_, fun k => ?_⟩
      · cases ho : x.once <;> simp [firesP, hh, ho]
      · simp [noteF, hh, hno]
      · simp only [List.foldl_cons, List.foldl_nil, noteF, if_pos hh]
        rw [mget_mput]
        by_cases hk : k = x.session
        · rw [if_pos hk, if_pos hk, hno]; simp
        · rw [if_neg hk, if_neg hk, h3, if_neg hk]
    · rw [if_neg (fun h => hh h.1)]
      refine ⟨?_, ?_, fun k => ?_⟩
      · rw [if_neg hon]; simp [firesP, hh]
      · simp [noteF, hh]
      · simp only [List.foldl_cons, List.foldl_nil, noteF, if_neg hh]
        exact h3 k
theorem one_ok {x : WatT} {B : BookT} {want : List EvT} (h : OneW x B want) (k : Nat) (hk : want.length ≤ k) : NosOk B.nos k ∧ B.ws.length ≤ 1 ∧ B.es.length ≤ k ∧ SortedW B.ws := by
  refine ⟨fun j => ?_, ?_, by rw [h.es]; exact hk, ?_⟩
  · rw [h.no]; split <;> omega
  · rw [h.ws]; split <;> simp
  · rw [h.ws]; unfold SortedW; split <;> simp
theorem more_len (x : WatT) (s : List UInt8) (what when_ : Int) (want : List EvT) : (moreF x s what when_ want).length ≤ want.length + 1 := by
  unfold moreF; split <;> simp
theorem more_sess (x : WatT) (s : List UInt8) (what when_ : Int) (want : List EvT) (h : ∀ e ∈ want, e.session = x.session) : ∀ e ∈ moreF x s what when_ want, e.session = x.session := by
  unfold moreF
  split
  · intro e he
    rcases List.mem_append.1 he with h1 | h1
    · exact h e h1
    · simp at h1; subst h1; rfl
  · exact h

end Go.Proofs.YtmlnhiodabielaaDoor
