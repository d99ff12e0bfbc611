/- Plain law of WatchApart: what one session has is the same, whatever the others do. No condition. -/
import Derived.Test.YtmlnhiodabielaaDoorWDo
set_option linter.unusedVariables false
set_option linter.unusedSimpArgs false
namespace Go.Proofs.YtmlnhiodabielaaDoor

theorem sorted_ext {l1 l2 : List WatT} (h1 : SortedW l1) (h2 : SortedW l2) (h : ∀ q, q ∈ l1 ↔ q ∈ l2) : l1 = l2 := by
  induction l1 generalizing l2 with
  | nil =>
    cases l2 with
    | nil => rfl
    | cons b r => exact absurd ((h b).2 (by simp)) (by simp)
  | cons a l1 ih =>
    cases l2 with
    | nil => exact absurd ((h a).1 (by simp)) (by simp)
    | cons b l2 =>
      have p1 := List.pairwise_cons.1 h1
      have p2 := List.pairwise_cons.1 h2
      have hab : a = b := by
        rcases List.mem_cons.1 ((h a).1 (by simp)) with e | m
        · exact e
        · rcases List.mem_cons.1 ((h b).2 (by simp)) with e | m2
          · exact e.symm
          · exact absurd (p1.1 b m2) (ord_asym (p2.1 a m))
      subst hab
      rw [ih p1.2 p2.2 (fun q => ?_)]
      constructor
      · intro hq
        rcases List.mem_cons.1 ((h q).1 (List.mem_cons_of_mem _ hq)) with e | m
        · subst e
          have := p1.1 q hq
          rw [(ord_zero q q).2 rfl] at this
          exact absurd this (by decide)
        · exact m
      · intro hq
        rcases List.mem_cons.1 ((h q).2 (List.mem_cons_of_mem _ hq)) with e | m
        · subst e
          have := p2.1 q hq
          rw [(ord_zero q q).2 rfl] at this
          exact absurd this (by decide)
        · exact m

/-- a book and what of it is one session's -/
structure Part1 (s : Int) (A B : BookT) : Prop where
  ws : B.ws = A.ws.filter fun x => decide (x.session = s)
  es : B.es = A.es.filter fun x => decide (x.session = s)
  no : (mget B.nos s).getD 0 = (mget A.nos s).getD 0
theorem Part1.nil (s : Int) : Part1 s ⟨[], [], []⟩ ⟨[], [], []⟩ := ⟨rfl, rfl, rfl⟩

theorem add_cases (B : BookT) (x : WatT) (hs : SortedW B.ws) (hl : B.ws.length < 40) :
    ((1 ≤ x.session ∧ x.session ≤ 281474976710655 ∧ checkF x.path = 0 ∧ x ∉ B.ws) ∧ (addF B x).2 = ⟨B.ws.take (lowF B.ws x) ++ [x] ++ B.ws.drop (lowF B.ws x), B.es, B.nos⟩) ∨ (¬ (1 ≤ x.session ∧ x.session ≤ 281474976710655 ∧ checkF x.path = 0 ∧ x ∉ B.ws) ∧ (addF B x).2 = B) := by
  unfold addF
  by_cases h1 : x.session < 1 ∨ 281474976710655 < x.session
  · right
    rw [if_pos h1]
    exact ⟨by omega, rfl⟩
  · rw [if_neg h1]
    by_cases h2 : checkF x.path = 0
    · rw [if_neg (by simp [h2])]
      by_cases h3 : x ∈ B.ws
      · right
        rw [if_pos ((there_iff hs x).2 h3)]
        exact ⟨fun h => h.2.2.2 h3, rfl⟩
      · left
        rw [if_neg (fun h => h3 ((there_iff hs x).1 h)), if_neg (by omega)]
        exact ⟨⟨by omega, by omega, h2, h3⟩, rfl⟩
    · right
      rw [if_pos h2]
      exact ⟨fun h => h2 h.2.2.1, rfl⟩
theorem mem_ins (ws : List WatT) (i : Nat) (x q : WatT) : q ∈ ws.take i ++ [x] ++ ws.drop i ↔ q = x ∨ q ∈ ws := by
  have : q ∈ ws ↔ q ∈ ws.take i ∨ q ∈ ws.drop i := by rw [← List.mem_append, List.take_append_drop]
  simp only [List.mem_append, List.mem_singleton, this]
  constructor
  · rintro ((h | h) | h)
    · exact .inr (.inl h)
    · exact .inl h
    · exact .inr (.inr h)
  · rintro (h | h | h)
    · exact .inl (.inr h)
    · exact .inl (.inl h)
    · exact .inr h
theorem add_own {s : Int} {A B : BookT} (h : Part1 s A B) (hA : SortedW A.ws) (hB : SortedW B.ws) (lA : A.ws.length < 40) (lB : B.ws.length < 40) (x : WatT) (hx : x.session = s) : Part1 s (addF A x).2 (addF B x).2 := by
  have hm : x ∈ B.ws ↔ x ∈ A.ws := by rw [h.ws, List.mem_filter]; simp [hx]
  rcases add_cases A x hA lA with ⟨c1, e1⟩ | ⟨c1, e1⟩
  · rcases add_cases B x hB lB with ⟨c2, e2⟩ | ⟨c2, e2⟩
    · rw [e1, e2]
      refine ⟨?_, h.es, h.no⟩
      refine sorted_ext (hB.ins c2.2.2.2) ((hA.ins c1.2.2.2).filter _) (fun q => ?_)
      rw [mem_ins, List.mem_filter, mem_ins, h.ws, List.mem_filter]
      constructor
      · rintro (rfl | ⟨h1, h2⟩)
        · exact ⟨.inl rfl, by simpa using hx⟩
        · exact ⟨.inr h1, h2⟩
      · rintro ⟨rfl | h1, h2⟩
        · exact .inl rfl
        · exact .inr ⟨h1, h2⟩
    · exact absurd ⟨c1.1, c1.2.1, c1.2.2.1, fun hh => c1.2.2.2 (hm.1 hh)⟩ c2
  · rcases add_cases B x hB lB with ⟨c2, e2⟩ | ⟨c2, e2⟩
    · exact absurd ⟨c2.1, c2.2.1, c2.2.2.1, fun hh => c2.2.2.2 (hm.2 hh)⟩ c1
    · rw [e1, e2]; exact h
theorem add_other {s : Int} {A B : BookT} (h : Part1 s A B) (hA : SortedW A.ws) (lA : A.ws.length < 40) (x : WatT) (hx : x.session ≠ s) : Part1 s (addF A x).2 B := by
  rcases add_cases A x hA lA with ⟨c1, e1⟩ | ⟨c1, e1⟩
  · rw [e1]
    refine ⟨?_, h.es, h.no⟩
    rw [h.ws]
    show _ = (A.ws.take (lowF A.ws x) ++ [x] ++ A.ws.drop (lowF A.ws x)).filter _
    rw [List.filter_append, List.filter_append, List.filter_cons, if_neg (by simpa using hx), List.filter_nil, List.append_nil, ← List.filter_append, List.take_append_drop]
  · rw [e1]; exact h

theorem note_part {s : Int} (p : List UInt8) (what when_ : Int) (ws : List WatT) (a b : Nts) (he : b.1 = a.1.filter fun x => decide (x.session = s)) (hn : (mget b.2 s).getD 0 = (mget a.2 s).getD 0) :
    ((ws.filter fun x => decide (x.session = s)).foldl (noteF p what when_) b).1 = (ws.foldl (noteF p what when_) a).1.filter (fun x => decide (x.session = s)) ∧
    (mget ((ws.filter fun x => decide (x.session = s)).foldl (noteF p what when_) b).2 s).getD 0 = (mget (ws.foldl (noteF p what when_) a).2 s).getD 0 := by
  induction ws generalizing a b with
  | nil => exact ⟨he, hn⟩
  | cons x r ih =>
    rw [List.foldl_cons, List.filter_cons]
    by_cases hx : x.session = s
    · rw [if_pos (by simpa using hx), List.foldl_cons]
      by_cases hh : (hearsF x p what).2 = true
      · refine ih _ _ ?_ ?_
        · simp only [noteF, if_pos hh]
          rw [List.filter_append, he, hx, hn]
          simp
        · simp only [noteF, if_pos hh]
          rw [hx, mget_mput, mget_mput, if_pos rfl, if_pos rfl, hn]
      · refine ih _ _ ?_ ?_
        · simp only [noteF, if_neg hh]; exact he
        · simp only [noteF, if_neg hh]; exact hn
    · rw [if_neg (by simpa using hx)]
      refine ih _ _ ?_ ?_
      · by_cases hh : (hearsF x p what).2 = true
        · simp only [noteF, if_pos hh]
          rw [List.filter_append, he]
          simp [hx]
        · simp only [noteF, if_neg hh]; exact he
      · by_cases hh : (hearsF x p what).2 = true
        · simp only [noteF, if_pos hh]
          rw [mget_mput, if_neg (fun e => hx e.symm), hn]
        · simp only [noteF, if_neg hh]; exact hn
theorem filter_comm {α : Type} (l : List α) (p q : α → Bool) : (l.filter p).filter q = (l.filter q).filter p := by
  rw [List.filter_filter, List.filter_filter]
  refine List.filter_congr fun x _ => ?_
  rw [Bool.and_comm]
theorem fire_part {s : Int} {A B : BookT} (h : Part1 s A B) (p : List UInt8) (what when_ : Int) : Part1 s (fireF A p what when_) (fireF B p what when_) := by
  obtain ⟨h1, h2⟩ := note_part p what when_ A.ws (A.es, A.nos) (B.es, B.nos) h.es h.no
  rw [← h.ws] at h1 h2
  refine ⟨?_, h1, h2⟩
  show B.ws.filter _ = (A.ws.filter _).filter _
  rw [h.ws, filter_comm]
theorem noted_own {s : Int} {A B : BookT} (h : Part1 s A B) (n : Int) : Part1 s (notedF A s n) (notedF B s n) := by
  refine ⟨h.ws, ?_, h.no⟩
  show B.es.filter _ = (A.es.filter _).filter _
  rw [h.es, filter_comm]
theorem noted_other {s t : Int} {A B : BookT} (h : Part1 s A B) (ht : t ≠ s) (n : Int) : Part1 s (notedF A t n) B := by
  refine ⟨h.ws, ?_, h.no⟩
  rw [h.es]
  show _ = (A.es.filter _).filter _
  rw [List.filter_filter]
  refine List.filter_congr fun x _ => ?_
  by_cases hx : x.session = s
  · have : ¬ (s = t ∧ x.no ≤ n) := fun hh => ht hh.1.symm
    simp [hx]
    exact .inl (fun e => ht e.symm)
  · simp [hx]
theorem drop_own {s : Int} {A B : BookT} (h : Part1 s A B) : Part1 s (dropF A s) (dropF B s) := by
  refine ⟨?_, ?_, ?_⟩
  · show B.ws.filter _ = (A.ws.filter _).filter _
    rw [h.ws, filter_comm]
  · show B.es.filter _ = (A.es.filter _).filter _
    rw [h.es, filter_comm]
  · show (mget (mdel B.nos s) s).getD 0 = (mget (mdel A.nos s) s).getD 0
    rw [mget_mdel, mget_mdel, if_pos rfl, if_pos rfl]
theorem drop_other {s t : Int} {A B : BookT} (h : Part1 s A B) (ht : t ≠ s) : Part1 s (dropF A t) B := by
  refine ⟨?_, ?_, ?_⟩
  · rw [h.ws]
    show _ = (A.ws.filter _).filter _
    rw [List.filter_filter]
    refine List.filter_congr fun x _ => ?_
    by_cases hx : x.session = s
    · simp [hx]; exact fun e => ht e.symm
    · simp [hx]
  · rw [h.es]
    show _ = (A.es.filter _).filter _
    rw [List.filter_filter]
    refine List.filter_congr fun x _ => ?_
    by_cases hx : x.session = s
    · simp [hx]; exact fun e => ht e.symm
    · simp [hx]
  · show _ = (mget (mdel A.nos t) s).getD 0
    rw [mget_mdel, if_neg (fun e => ht e.symm)]
    exact h.no

theorem do_own {s : Int} {A B : BookT} (h : Part1 s A B) (hA : SortedW A.ws) (hB : SortedW B.ws) (lA : A.ws.length < 40) (lB : B.ws.length < 40) (a : ActW) (when_ : Int) (ha : sessF a = s) : Part1 s (doW A a when_) (doW B a when_) := by
  subst ha
  unfold doW
  split
  · exact add_own h hA hB lA lB _ rfl
  · split
    · exact fire_part h _ _ _
    · split
      · exact noted_own h _
      · exact drop_own h
theorem do_fires {s : Int} {A B : BookT} (h : Part1 s A B) (a : ActW) (when_ : Int) (h2 : 2 ≤ actI a.k) (h4 : actI a.k ≤ 4) : Part1 s (doW A a when_) (doW B a when_) := by
  unfold doW
  rw [if_neg (by omega), if_pos h4, if_neg (by omega), if_pos h4]
  exact fire_part h _ _ _
theorem do_other {s : Int} {A B : BookT} (h : Part1 s A B) (hA : SortedW A.ws) (lA : A.ws.length < 40) (a : ActW) (when_ : Int) (ha : sessF a ≠ s) (hf : ¬ (2 ≤ actI a.k ∧ actI a.k ≤ 4)) : Part1 s (doW A a when_) B := by
  unfold doW
  split
  · exact add_other h hA lA _ ha
  · split
    · omega
    · split
      · exact noted_other h ha _
      · exact drop_other h ha
/-- an act adds one watch at the most -/
theorem do_len (B : BookT) (a : ActW) (when_ : Int) : (doW B a when_).ws.length ≤ B.ws.length + 1 := by
  unfold doW
  split
  · unfold addF
    split
    · simp
    · split
      · simp
      · split
        · simp
        · split
          · simp
          · have := low_le B.ws ⟨sessF a, madeP a.path, a.kids, a.once⟩
            simp
            omega
  · split
    · exact Nat.le_trans (List.length_filter_le _ _) (by omega)
    · split
      · simp [notedF]
      · exact Nat.le_trans (List.length_filter_le _ _) (by omega)

end Go.Proofs.YtmlnhiodabielaaDoor
