/- Plain law of WatchNumbers: the events of a session that an act adds are numbered one by one. No condition. -/
import Derived.Test.YtmlnhiodabielaaDoorWDo
set_option linter.unusedVariables false
set_option linter.unusedSimpArgs false
namespace Go.Proofs.YtmlnhiodabielaaDoor

def numF (nos : List (Int × Int)) (s : Int) : Int := (mget nos s).getD 0
def ofS (es : List EvT) (s : Int) : List EvT := es.filter fun x => decide (x.session = s)
/-- the events of a session: old ones, then new ones, numbered one by one -/
def NewS (n0 : Int) (s : Int) (i : Int) (es : List EvT) (n1 : Int) : Prop :=
  ∃ l1 l2 : List EvT, ofS es s = l1 ++ l2 ∧ (∀ e ∈ l1, e.no ≤ n0) ∧ (∀ (j : Nat) (e : EvT), l2[j]? = some e → e.no = n0 + 1 + j ∧ e.when_ = i) ∧ n1 = n0 + l2.length
/-- no event is numbered beyond its session's last number -/
def NumOk (B : BookT) : Prop := ∀ e ∈ B.es, e.no ≤ numF B.nos e.session
theorem NumOk.nil : NumOk ⟨[], [], []⟩ := fun e h => by cases h
theorem new_old {B : BookT} (h : NumOk B) (es : List EvT) (hs : ∀ e ∈ es, e ∈ B.es) (s i : Int) : NewS (numF B.nos s) s i es (numF B.nos s) := by
  refine ⟨ofS es s, [], by simp, fun e he => ?_, by simp, by simp⟩
  obtain ⟨h1, h2⟩ := List.mem_filter.1 he
  have := h e (hs e h1)
  rwa [of_decide_eq_true h2] at this
theorem new_fold (p : List UInt8) (what i : Int) (s n0 : Int) (ws : List WatT) (st : Nts) (h : NewS n0 s i st.1 (numF st.2 s)) :
    NewS n0 s i (ws.foldl (noteF p what i) st).1 (numF (ws.foldl (noteF p what i) st).2 s) := by
  induction ws generalizing st with
  | nil => exact h
  | cons x r ih =>
    rw [List.foldl_cons]
    refine ih _ ?_
    by_cases hh : (hearsF x p what).2 = true
    · simp only [noteF, if_pos hh]
      obtain ⟨l1, l2, e1, e2, e3, e4⟩ := h
      by_cases hx : x.session = s
      · subst hx
        refine ⟨l1, l2 ++ [⟨x.session, (mget st.2 x.session).getD 0 + 1, x.path, (hearsF x p what).1, i⟩], ?_, e2, ?_, ?_⟩
        · unfold ofS at e1 ⊢
          rw [List.filter_append, e1]
          simp
        · intro j e hj
          rcases Nat.lt_or_ge j l2.length with hl | hl
          · rw [List.getElem?_append_left hl] at hj
            exact e3 j e hj
          · rw [List.getElem?_append_right hl] at hj
            have h0 : j - l2.length = 0 := by
              have := (List.getElem?_eq_some_iff.1 hj).1
              simp at this
              omega
            rw [h0] at hj
            injection hj with hj
            subst hj
            unfold numF at e4
            refine ⟨?_, rfl⟩
            show (mget st.2 x.session).getD 0 + 1 = _
            rw [e4]
            omega
        · unfold numF at e4 ⊢
          rw [mget_mput, if_pos rfl]
          simp only [Option.getD_some, List.length_append, List.length_singleton]
          omega
      · refine ⟨l1, l2, ?_, e2, e3, ?_⟩
        · unfold ofS at e1 ⊢
          rw [List.filter_append, e1]
          simp [hx]
        · unfold numF at e4 ⊢
          rw [mget_mput, if_neg (fun e => hx e.symm)]
          exact e4
    · simp only [noteF, if_neg hh]
      exact h
theorem num_note (p : List UInt8) (what i : Int) (ws : List WatT) (st : Nts) (h : ∀ e ∈ st.1, e.no ≤ numF st.2 e.session) : ∀ e ∈ (ws.foldl (noteF p what i) st).1, e.no ≤ numF (ws.foldl (noteF p what i) st).2 e.session := by
  induction ws generalizing st with
  | nil => exact h
  | cons x r ih =>
    rw [List.foldl_cons]
    refine ih _ ?_
    by_cases hh : (hearsF x p what).2 = true
    · simp only [noteF, if_pos hh]
      intro e he
      unfold numF
      rw [mget_mput]
      rcases List.mem_append.1 he with he | he
      · have := h e he
        unfold numF at this
        split
        · rename_i hs
          rw [hs] at this
          simp only [Option.getD_some]
          omega
        · exact this
      · simp at he
        subst he
        rw [if_pos rfl]
        simp
    · simp only [noteF, if_neg hh]
      exact h
/-- an act that is no Drop -/
theorem do_new {B : BookT} (h : NumOk B) (a : ActW) (i : Int) (ha : actI a.k ≠ 6) (s : Int) : NewS (numF B.nos s) s i (doW B a i).es (numF (doW B a i).nos s) := by
  have hk := actI_lt a.k
  unfold doW
  split
  · have e : (addF B ⟨sessF a, madeP a.path, a.kids, a.once⟩).2.es = B.es ∧ (addF B ⟨sessF a, madeP a.path, a.kids, a.once⟩).2.nos = B.nos := by
      unfold addF
      split
      · exact ⟨rfl, rfl⟩
      · split
        · exact ⟨rfl, rfl⟩
        · split
          · exact ⟨rfl, rfl⟩
          · split
            · exact ⟨rfl, rfl⟩
            · exact ⟨rfl, rfl⟩
    rw [e.1, e.2]
    exact new_old h _ (fun e h => h) s i
  · split
    · exact new_fold _ _ i s _ _ _ (new_old h _ (fun e h => h) s i)
    · split
      · exact new_old h _ (fun e he => (List.mem_filter.1 he).1) s i
      · omega
theorem do_num {B : BookT} (h : NumOk B) (a : ActW) (i : Int) (ha : actI a.k ≠ 6) : NumOk (doW B a i) := by
  have hk := actI_lt a.k
  unfold doW
  split
  · have e : (addF B ⟨sessF a, madeP a.path, a.kids, a.once⟩).2.es = B.es ∧ (addF B ⟨sessF a, madeP a.path, a.kids, a.once⟩).2.nos = B.nos := by
      unfold addF
      split
      · exact ⟨rfl, rfl⟩
      · split
        · exact ⟨rfl, rfl⟩
        · split
          · exact ⟨rfl, rfl⟩
          · split
            · exact ⟨rfl, rfl⟩
            · exact ⟨rfl, rfl⟩
    unfold NumOk
    rw [e.1, e.2]
    exact h
  · split
    · exact num_note _ _ i _ _ h
    · split
      · exact fun e he => h e (List.mem_filter.1 he).1
      · omega

end Go.Proofs.YtmlnhiodabielaaDoor
