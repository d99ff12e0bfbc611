/- Plain laws: what acts make can be laid and read; numbers in another order. No condition. -/
import Derived.Test.YtbfogieeiobpdaaGreatDoorWDo
import Derived.Test.YtbfogieeiobpdaaGreatDoorWCut
set_option linter.unusedVariables false
set_option linter.unusedSimpArgs false
namespace Go.Proofs.YtbfogieeiobpdaaGreatDoor

def okM (N : Int) (p : Int × Int) : Prop := 1 ≤ p.1 ∧ p.1 ≤ 7 ∧ 0 ≤ p.2 ∧ p.2 ≤ N
theorem okM.mono {N M : Int} (h : N ≤ M) {p : Int × Int} (hp : okM N p) : okM M p := ⟨hp.1, hp.2.1, hp.2.2.1, Int.le_trans hp.2.2.2 h⟩
structure InvG (B : BookT) (m : Nat) : Prop where
  wk : ∀ x ∈ B.ws, okW x ∧ x.session ≤ 7
  ek : ∀ x ∈ B.es, okE x
  nd : (keys B.nos).Nodup
  nk : ∀ p ∈ B.nos, okM (40 * m) p
theorem InvG.nil : InvG ⟨[], [], []⟩ 0 := ⟨by simp, by simp, by simp, by simp⟩
theorem InvG.mono {B : BookT} {m n : Nat} (h : InvG B m) (hm : m ≤ n) : InvG B n := ⟨h.wk, h.ek, h.nd, fun p hp => (h.nk p hp).mono (by omega)⟩
structure StG (st : Nts) (N : Int) : Prop where
  ek : ∀ x ∈ st.1, okE x
  nd : (keys st.2).Nodup
  nk : ∀ p ∈ st.2, okM N p
theorem hears_what (x : WatT) (s : List UInt8) (what : Int) (h : 0 ≤ what ∧ what ≤ 4) : 0 ≤ (hearsF x s what).1 ∧ (hearsF x s what).1 ≤ 4 := by
  unfold hearsF
  split
  · exact h
  · split <;> exact ⟨by decide, by decide⟩
theorem StG.note {st : Nts} {N : Int} (h : StG st N) (hN : 0 ≤ N ∧ N ≤ 1000000) (s : List UInt8) (what when_ : Int) (hw : 0 ≤ what ∧ what ≤ 4) (ht : 0 ≤ when_ ∧ when_ ≤ 281474976710655) (x : WatT) (hx : okW x) (h7 : x.session ≤ 7) : StG (noteF s what when_ st x) (N + 1) := by
  have hv : 0 ≤ (mget st.2 x.session).getD 0 ∧ (mget st.2 x.session).getD 0 ≤ N := by
    cases hm : mget st.2 x.session with
    | none => exact ⟨by decide, hN.1⟩
    | some v => exact (h.nk _ (mget_mem hm)).2.2
  unfold noteF
  split
  · refine ⟨?_, nodup_mput h.nd _ _, ?_⟩
    · intro e he
      rcases List.mem_append.1 he with he | he
      · exact h.ek e he
      · simp only [List.mem_singleton] at he
        subst he
        obtain ⟨w1, w2⟩ := hears_what x s what hw
        exact ⟨by have := hx.s1; simp only; omega, hx.s2, by simp only; omega, by simp only; omega, hx.pl, w1, w2, ht.1, ht.2⟩
    · intro p hp
      have h1 := mget_some (nodup_mput h.nd _ _) (show (p.1, p.2) ∈ _ from hp)
      rw [mget_mput] at h1
      split at h1
      · rename_i e
        simp only [Option.some.injEq] at h1
        have := hx.s1
        exact ⟨by omega, by omega, by omega, by omega⟩
      · exact (h.nk _ (mget_mem h1)).mono (by omega)
  · exact ⟨h.ek, h.nd, fun p hp => (h.nk p hp).mono (by omega)⟩
theorem StG.notes (s : List UInt8) (what when_ : Int) (hw : 0 ≤ what ∧ what ≤ 4) (ht : 0 ≤ when_ ∧ when_ ≤ 281474976710655) (l : List WatT) (hl : ∀ x ∈ l, okW x ∧ x.session ≤ 7) {st : Nts} {N : Int} (h : StG st N) (hN : 0 ≤ N ∧ N + l.length ≤ 1000000) : StG (l.foldl (noteF s what when_) st) (N + l.length) := by
  induction l generalizing st N with
  | nil => simpa using h
  | cons x r ih =>
    obtain ⟨h1, h2⟩ := hl x (by simp)
    simp only [List.length_cons] at hN
    have h3 := ih (fun y hy => hl y (by simp [hy])) (h.note (by omega) s what when_ hw ht x h1 h2) (by omega)
    have e : N + 1 + (r.length : Int) = N + ((x :: r).length : Nat) := by simp only [List.length_cons]; omega
    rw [e] at h3
    exact h3
theorem doW_good {B : BookT} {m : Nat} (h : InvG B m) (hi : InvW B m) (hm : m ≤ 1000) (a : ActW) (hp : (madeP a.path).length ≤ 60) (when_ : Int) (ht : 0 ≤ when_ ∧ when_ ≤ 281474976710655) : InvG (doW B a when_) (m + 1) := by
  obtain ⟨k0, k7⟩ := actI_lt a.k
  obtain ⟨s0, s7⟩ := sess_le a
  have hl := hi.ws
  unfold doW
  split
  · refine InvG.mono ?_ (Nat.le_succ m)
    unfold addF
    split
    · exact h
    · rename_i hs
      split
      · exact h
      · rename_i hc
        split
        · exact h
        · split
          · exact h
          · refine ⟨?_, h.ek, h.nd, h.nk⟩
            intro x hx
            simp only [List.mem_append, List.mem_singleton] at hx
            rcases hx with (hx | hx) | hx
            · exact h.wk x (List.mem_of_mem_take hx)
            · subst hx
              simp only at hs hc
              exact ⟨⟨by simp only; omega, by simp only; omega, hp, by simpa using hc⟩, s7⟩
            · exact h.wk x (List.mem_of_mem_drop hx)
  · split
    · rename_i k1 k4
      have hst : StG (B.es, B.nos) (40 * m) := ⟨h.ek, h.nd, h.nk⟩
      have h2 := StG.notes (madeP a.path) (actI a.k - 1) when_ (by omega) ht B.ws h.wk hst (by omega)
      refine ⟨fun x hx => h.wk x (List.mem_filter.1 hx).1, h2.ek, h2.nd, fun p hp => (h2.nk p hp).mono (by omega)⟩
    · refine InvG.mono ?_ (Nat.le_succ m)
      split
      · exact ⟨h.wk, fun x hx => h.ek x (List.mem_filter.1 hx).1, h.nd, h.nk⟩
      · refine ⟨fun x hx => h.wk x (List.mem_filter.1 hx).1, fun x hx => h.ek x (List.mem_filter.1 hx).1, nodup_mdel h.nd _, ?_⟩
        intro p hp
        exact h.nk p (List.mem_filter.1 hp).1
theorem seven (l : List Int) (lo : Int) (hs : l.Pairwise (· < ·)) (h : ∀ x ∈ l, lo ≤ x ∧ x ≤ 7) (hlo : lo ≤ 8) : (l.length : Int) ≤ 8 - lo := by
  induction l generalizing lo with
  | nil => simp; omega
  | cons a r ih =>
    obtain ⟨h1, h2⟩ := List.pairwise_cons.1 hs
    have h3 := h a (by simp)
    have h4 := ih (a + 1) h2 (fun x hx => ⟨by have := h1 x hx; omega, (h x (by simp [hx])).2⟩) (by omega)
    simp only [List.length_cons]
    omega
theorem InvG.good {B : BookT} {m : Nat} (h : InvG B m) (hi : InvW B m) (hm : m ≤ 1000) (he : B.es.length ≤ 1024) : GoodW B := by
  have h7 := seven (sortZ (keys B.nos)) 1 (sortZ_lt h.nd) (fun x hx => by
    obtain ⟨p, hp, rfl⟩ := List.mem_map.1 ((sortZ_perm _).mem_iff.1 hx)
    exact ⟨(h.nk p hp).1, (h.nk p hp).2.1⟩) (by omega)
  rw [sortZ_length] at h7
  have hk : (keys B.nos).length = B.nos.length := by simp [keys]
  refine ⟨hi.sorted, hi.ws, fun x hx => (h.wk x hx).1, he, h.ek, by omega, h.nd, fun p hp => ?_⟩
  obtain ⟨p1, p2, p3, p4⟩ := h.nk p hp
  exact ⟨p1, by omega, p3, by omega⟩

/-- the same but for the order of the numbers -/
structure EqB (B C : BookT) : Prop where
  ws : C.ws = B.ws
  es : C.es = B.es
  nos : ∀ k, mget C.nos k = mget B.nos k
theorem EqB.refl (B : BookT) : EqB B B := ⟨rfl, rfl, fun _ => rfl⟩
theorem notes_eq (s : List UInt8) (what when_ : Int) (l : List WatT) {es : List EvT} {a b : List (Int × Int)} (h : ∀ k, mget b k = mget a k) : (l.foldl (noteF s what when_) (es, b)).1 = (l.foldl (noteF s what when_) (es, a)).1 ∧ ∀ k, mget (l.foldl (noteF s what when_) (es, b)).2 k = mget (l.foldl (noteF s what when_) (es, a)).2 k := by
  induction l generalizing es a b with
  | nil => exact ⟨rfl, h⟩
  | cons x r ih =>
    simp only [List.foldl_cons]
    unfold noteF
    split
    · simp only [h x.session]
      exact ih fun k => by rw [mget_mput, mget_mput, h k]
    · exact ih h
theorem EqB.doW {B C : BookT} (h : EqB B C) (a : ActW) (when_ : Int) : EqB (Go.Proofs.YtbfogieeiobpdaaGreatDoor.doW B a when_) (Go.Proofs.YtbfogieeiobpdaaGreatDoor.doW C a when_) := by
  obtain ⟨ws, es, nos⟩ := B
  obtain ⟨ws2, es2, nos2⟩ := C
  obtain ⟨h1, h2, h3⟩ := h
  simp only at h1 h2 h3
  subst h1 h2
  unfold Go.Proofs.YtbfogieeiobpdaaGreatDoor.doW
  split
  · unfold addF
    repeat' split
    all_goals exact ⟨rfl, rfl, h3⟩
  · split
    · obtain ⟨e1, e2⟩ := notes_eq (madeP a.path) (actI a.k - 1) when_ ws2 (es := es2) h3
      exact ⟨rfl, e1, e2⟩
    · split
      · exact ⟨rfl, rfl, h3⟩
      · exact ⟨rfl, rfl, fun k => by simp only [dropF, mget_mdel, h3 k]⟩
theorem EqB.layW {B C : BookT} (h : EqB B C) (h1 : (keys B.nos).Nodup) (h2 : (keys C.nos).Nodup) : layW C = layW B := by
  obtain ⟨e1, e2⟩ := normZ_eq h2 h1 h.nos
  unfold Go.Proofs.YtbfogieeiobpdaaGreatDoor.layW
  rw [h.ws, h.es, e1, e2]
theorem EqB.invW {B C : BookT} (h : EqB B C) {m : Nat} (hi : InvW B m) : InvW C m := ⟨by rw [h.ws]; exact hi.sorted, by rw [h.ws]; exact hi.ws, by rw [h.es]; exact hi.es, fun k => by rw [h.nos k]; exact hi.nos k⟩

end Go.Proofs.YtbfogieeiobpdaaGreatDoor
