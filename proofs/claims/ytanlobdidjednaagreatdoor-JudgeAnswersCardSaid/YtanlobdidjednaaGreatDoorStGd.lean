/- What stands of a state that is read back out of its bytes; cut off they are none: plain. No condition. -/
import Derived.Test.YtanlobdidjednaaGreatDoorStRel
import Derived.Test.YtanlobdidjednaaGreatDoorStRd
import Derived.Test.YtanlobdidjednaaGreatDoorStAcc
import Derived.Test.YtanlobdidjednaaGreatDoorTabG
import Derived.Test.YtanlobdidjednaaGreatDoorWCut
set_option linter.unusedVariables false
set_option linter.unusedSimpArgs false
namespace Go.Proofs.YtanlobdidjednaaGreatDoor
open Go.RowKit

structure GdB (B : BookT) (K : Int → Prop) : Prop where
  ws : ∀ x ∈ B.ws, okW x ∧ K x.session
  es : ∀ x ∈ B.es, okE x ∧ K x.session
  nos : ∀ k ∈ keys B.nos, K k
  nd : (keys B.nos).Nodup
theorem hears_le (x : WatT) (s : List UInt8) {what : Int} (h : 0 ≤ what ∧ what ≤ 4) : 0 ≤ (hearsF x s what).1 ∧ (hearsF x s what).1 ≤ 4 := by
  unfold hearsF
  repeat' split
  · exact h
  · exact ⟨by decide, by decide⟩
  · exact ⟨by decide, by decide⟩
theorem note_gd {K : Int → Prop} (s : List UInt8) {what when_ : Int} (hw : 0 ≤ what ∧ what ≤ 4) (ht : 0 ≤ when_ ∧ when_ ≤ 1000) {x : WatT} (hx : okW x ∧ K x.session) {st : Nts} {N : Int} (hN : NosOk st.2 N) (hB : N < 281474976710655) (h1 : ∀ x ∈ st.1, okE x ∧ K x.session) (h2 : ∀ k ∈ keys st.2, K k) (h3 : (keys st.2).Nodup) :
    (∀ y ∈ (noteF s what when_ st x).1, okE y ∧ K y.session) ∧ (∀ k ∈ keys (noteF s what when_ st x).2, K k) ∧ (keys (noteF s what when_ st x).2).Nodup := by
  unfold noteF
  split
  · refine ⟨fun y hy => ?_, fun k hk => ?_, nodup_mput h3 _ _⟩
    · rcases List.mem_append.1 hy with hy | hy
      · exact h1 y hy
      · simp only [List.mem_singleton] at hy
        subst hy
        have a := hN x.session
        have b := hears_le x s hw
        have c1 := hx.1.s1
        exact ⟨⟨by simp only; omega, hx.1.s2, by simp only; omega, by simp only; omega, hx.1.pl, b.1, b.2, ht.1, by simp only; omega⟩, hx.2⟩
    · rw [keys_mput] at hk
      split at hk
      · exact h2 k hk
      · rcases List.mem_append.1 hk with hk | hk
        · exact h2 k hk
        · simp only [List.mem_singleton] at hk
          rw [hk]; exact hx.2
  · exact ⟨h1, h2, h3⟩
theorem notes_gd {K : Int → Prop} (s : List UInt8) {what when_ : Int} (hw : 0 ≤ what ∧ what ≤ 4) (ht : 0 ≤ when_ ∧ when_ ≤ 1000) (l : List WatT) (hl : ∀ x ∈ l, okW x ∧ K x.session) : ∀ {st : Nts} {N : Int}, NosOk st.2 N → N + l.length ≤ 281474976710655 → (∀ x ∈ st.1, okE x ∧ K x.session) → (∀ k ∈ keys st.2, K k) → (keys st.2).Nodup →
    (∀ y ∈ (l.foldl (noteF s what when_) st).1, okE y ∧ K y.session) ∧ (∀ k ∈ keys (l.foldl (noteF s what when_) st).2, K k) ∧ (keys (l.foldl (noteF s what when_) st).2).Nodup := by
  induction l with
  | nil => exact fun _ _ a b c => ⟨a, b, c⟩
  | cons x r ih =>
    intro st N hN hB a b c
    simp only [List.length_cons] at hB
    rw [List.foldl_cons]
    obtain ⟨a1, b1, c1⟩ := note_gd s hw ht (hl x (by simp)) hN (by omega) a b c
    exact ih (fun y hy => hl y (by simp [hy])) (note_ok s what when_ st x hN).1 (by omega) a1 b1 c1
theorem GdB.fire {B : BookT} {K : Int → Prop} (h : GdB B K) {n : Nat} (hi : InvW B n) (hn : n ≤ 1000000) (s : List UInt8) {what when_ : Int} (hw : 0 ≤ what ∧ what ≤ 4) (ht : 0 ≤ when_ ∧ when_ ≤ 1000) : GdB (fireF B s what when_) K := by
  have h1 := hi.ws
  obtain ⟨a, b, c⟩ := notes_gd s hw ht B.ws h.ws (st := (B.es, B.nos)) (N := 40 * (n : Int)) hi.nos (by omega) h.es h.nos h.nd
  exact ⟨fun x hx => h.ws x (List.mem_filter.1 hx).1, a, b, c⟩
theorem GdB.fires (cs : List Chg) {when_ : Int} (ht : 0 ≤ when_ ∧ when_ ≤ 1000) {K : Int → Prop} : ∀ {B : BookT} {n : Nat}, GdB B K → InvW B n → n + cs.length ≤ 1000000 → (∀ c ∈ cs, 0 ≤ c.2 ∧ c.2 ≤ 4) → GdB (firesF B cs when_) K := by
  induction cs with
  | nil => exact fun h _ _ _ => h
  | cons c r ih =>
    intro B n h hi hn hc
    simp only [List.length_cons] at hn
    exact ih (h.fire hi (by omega) c.1 (hc c (by simp)) ht) (fire_inv hi c.1 c.2 when_) (by omega) (fun d hd => hc d (by simp [hd]))
theorem GdB.noted {B : BookT} {K : Int → Prop} (h : GdB B K) (ss no : Int) : GdB (notedF B ss no) K := ⟨h.ws, fun x hx => h.es x (List.mem_filter.1 hx).1, h.nos, h.nd⟩
theorem GdB.drop {B : BookT} {K : Int → Prop} (h : GdB B K) (ss : Int) : GdB (dropF B ss) (fun k => K k ∧ k ≠ ss) := by
  refine ⟨fun x hx => ?_, fun x hx => ?_, fun k hk => ?_, nodup_mdel h.nd ss⟩
  · obtain ⟨a, b⟩ := List.mem_filter.1 hx
    exact ⟨(h.ws x a).1, (h.ws x a).2, by simpa using b⟩
  · obtain ⟨a, b⟩ := List.mem_filter.1 hx
    exact ⟨(h.es x a).1, (h.es x a).2, by simpa using b⟩
  · obtain ⟨a, b⟩ := mem_keys_mdel.1 hk
    exact ⟨h.nos k a, b⟩
theorem GdB.mono {B : BookT} {K K' : Int → Prop} (h : GdB B K) (hk : ∀ k, K k → K' k) : GdB B K' := ⟨fun x hx => ⟨(h.ws x hx).1, hk _ (h.ws x hx).2⟩, fun x hx => ⟨(h.es x hx).1, hk _ (h.es x hx).2⟩, fun k h2 => hk k (h.nos k h2), h.nd⟩
theorem GdB.add {B : BookT} {K : Int → Prop} (h : GdB B K) {x : WatT} (hx : K x.session) : GdB (addF B x).2 K := by
  unfold addF
  split
  · exact h
  · rename_i h1
    split
    · exact h
    · rename_i h2
      split
      · exact h
      · split
        · exact h
        · refine ⟨fun y hy => ?_, h.es, h.nos, h.nd⟩
          simp only [List.mem_append, List.mem_singleton] at hy
          rcases hy with (hy | rfl) | hy
          · exact h.ws y (List.mem_of_mem_take hy)
          · simp only [ne_eq, Decidable.not_not] at h2
            exact ⟨⟨by omega, by omega, check_len h2, h2⟩, hx⟩
          · exact h.ws y (List.mem_of_mem_drop hy)
theorem GdB.ends {when_ : Int} (ht : 0 ≤ when_ ∧ when_ ≤ 1000) {K : Int → Prop} (ps : List (List UInt8)) : ∀ {n : Nat} {T M : TreeT} {B : BookT}, Mod T M n → InvW B n → GdB B K → n + ps.length ≤ 1000000 → GdB (endL when_ ps T B).2 K := by
  induction ps with
  | nil => exact fun _ _ h _ => h
  | cons p r ih =>
    intro n T M B h h2 h3 hn
    simp only [List.length_cons] at hn
    unfold endL
    by_cases h0 : (deleteF T p (-1)).1 = 0
    · rw [if_pos h0]
      exact ih (h.delete p (-1)).2 (fire_inv h2 p 2 when_) (h3.fire h2 (by omega) p ⟨by decide, by decide⟩ ht) (by omega)
    · rw [if_neg h0, delete_bad h0]
      exact ih h h2 h3 (by omega)
structure GdS (s : StT) : Prop where
  book : GdB s.book (fun k => k ∈ keys s.tab)
  tab : ∀ p ∈ s.tab, 0 ≤ p.2.1 ∧ p.2.1 ≤ 281474976710655 ∧ (p.2.1 = 0 → p.2.2 = [])
theorem gd0 : GdS st0 := ⟨⟨by simp [st0], by simp [st0], by simp [st0], by simp [st0]⟩, by simp [st0]⟩
theorem owned_len {T M : TreeT} {n : Nat} (h : Mod T M n) (id : Int) : (ownedF T id).length ≤ 60 := by
  rw [h.owned, List.length_map]
  exact Nat.le_trans (List.length_filter_le _ _) h.len
theorem GdS.endF {s : StT} (h : GdS s) {M : TreeT} {n : Nat} (hM : InvS s M n) (hn : n ≤ 10000) (id : Int) {when_ : Int} (ht : 0 ≤ when_ ∧ when_ ≤ 1000) : GdS (Go.Proofs.YtanlobdidjednaaGreatDoor.endF s id when_) := by
  have h1 := owned_len hM.tree id
  have h2 := GdB.ends ht (ownedF s.tree id).reverse hM.tree hM.book h.book (by rw [List.length_reverse]; omega)
  have h3 := h2.drop id
  refine ⟨h3.mono ?_, ?_⟩
  · rintro k ⟨a, b⟩
    show k ∈ keys (closeF s.tab id).2
    unfold closeF
    split
    · exact mem_keys_mdel.2 ⟨a, b⟩
    · exact a
  · show ∀ p ∈ (closeF s.tab id).2, _
    unfold closeF
    split
    · exact fun p hp => h.tab p (List.mem_filter.1 hp).1
    · exact h.tab
theorem step_chg (T : TreeT) (o : OpT) (ss when_ : Int) : 0 ≤ (stepF T o ss when_).chg.2 ∧ (stepF T o ss when_).chg.2 ≤ 4 := by
  unfold stepF
  repeat' split
  all_goals (constructor <;> (simp only; omega))
theorem upd_chg (ss when_ : Int) (ops : List OpT) : ∀ (k : Nat) (T : TreeT) (os : List OutT) (cs : List Chg), (∀ c ∈ cs, 0 ≤ c.2 ∧ c.2 ≤ 4) → ∀ c ∈ (updL ss when_ ops k T os cs).2.2.2.2, 0 ≤ c.2 ∧ c.2 ≤ 4 := by
  induction ops with
  | nil => exact fun _ _ _ _ h => h
  | cons o r ih =>
    intro k T os cs h
    unfold updL
    split
    · exact h
    · refine ih _ _ _ _ ?_
      split
      · intro c hc
        rcases List.mem_append.1 hc with hc | hc
        · exact h c hc
        · simp only [List.mem_singleton] at hc
          rw [hc]; exact step_chg _ _ _ _
      · exact h
theorem GdS.updateF {s : StT} (h : GdS s) {M : TreeT} {n : Nat} (hM : InvS s M n) (hn : n ≤ 900) {c : CmdT} (hc : cmdR c = true) {when_ : Int} (hw : 0 ≤ when_ ∧ when_ ≤ 1000) : GdS (Go.Proofs.YtanlobdidjednaaGreatDoor.updateF s c when_).2 := by
  obtain ⟨c1, c2, c3, c4, c5, c6, c7⟩ := cmdR_at hc
  obtain ⟨M', n', g1, g2, g3, g4, g5⟩ := upd_inv c3 hw c.ops c6 (k := 0) (os := []) (cs := []) hM.tree (by omega)
  unfold Go.Proofs.YtanlobdidjednaaGreatDoor.updateF
  split
  · exact h
  · simp only [List.length_nil, Nat.add_zero] at g4
    exact ⟨GdB.fires _ hw h.book hM.book (by omega) (upd_chg _ _ _ _ _ _ _ (by simp)), h.tab⟩
theorem seen_in {m : Tab} {id rq : Int} (h : (seenF m id rq).2.2 = 0) : id ∈ keys m ∧ 1 ≤ rq ∧ rq ≤ 281474976710655 := by
  unfold seenF at h
  cases hm : mget m id with
  | none => rw [hm] at h; simp at h
  | some v =>
    rw [hm] at h
    simp only at h
    split at h
    · simp at h
    · exact ⟨mem_keys_mget.2 ⟨v, hm⟩, by omega, by omega⟩
theorem GdS.doF {s : StT} (h : GdS s) {M : TreeT} {n : Nat} (hM : InvS s M n) (hn : n ≤ 900) {c : CmdT} (hc : cmdR c = true) {when_ : Int} (hw : 0 ≤ when_ ∧ when_ ≤ 1000) (hin : c.session ∈ keys s.tab) : GdS (Go.Proofs.YtanlobdidjednaaGreatDoor.doF s c when_).2 ∧ (Go.Proofs.YtanlobdidjednaaGreatDoor.doF s c when_).2.tab = s.tab := by
  unfold Go.Proofs.YtanlobdidjednaaGreatDoor.doF
  split
  · refine ⟨h.updateF hM hn hc hw, ?_⟩
    unfold Go.Proofs.YtanlobdidjednaaGreatDoor.updateF
    split <;> rfl
  · split
    · exact ⟨⟨GdB.add h.book hin, h.tab⟩, rfl⟩
    · exact ⟨h, rfl⟩
theorem GdS.cmdF {s : StT} (h : GdS s) {M : TreeT} {n : Nat} (hM : InvS s M n) (hn : n ≤ 900) {c : CmdT} (hc : cmdR c = true) {when_ : Int} (hw : 0 ≤ when_ ∧ when_ ≤ 1000) : GdS (Go.Proofs.YtanlobdidjednaaGreatDoor.cmdF s c when_).2 := by
  have hN : GdS ⟨s.tree, s.tab, notedF s.book c.session c.noted, s.at_⟩ := ⟨h.book.noted _ _, h.tab⟩
  have hI : InvS ⟨s.tree, s.tab, notedF s.book c.session c.noted, s.at_⟩ M n := ⟨hM.tree, noted_inv hM.book _ _, hM.ok, hM.nd, hM.len, hM.kept, hM.at0, hM.at1⟩
  unfold Go.Proofs.YtanlobdidjednaaGreatDoor.cmdF
  split
  · exact h
  · split
    · unfold openF
      refine ⟨h.book.mono ?_, ?_⟩
      · intro k hk
        simp only
        repeat' split
        all_goals first | exact hk | (rw [keys_mput]; split; exact hk; simp [hk])
      · simp only
        repeat' split
        all_goals first | exact h.tab | skip
        intro p hp
        rcases mem_mputT hp with rfl | hp
        · simp
        · exact h.tab p hp
    · split
      · exact h
      · rename_i hs0
        simp only [ne_eq, Decidable.not_not] at hs0
        obtain ⟨s1, s2, s3⟩ := seen_in hs0
        split
        · exact h
        · split
          · exact hN.endF hI (by omega) _ hw
          · obtain ⟨g1, g2⟩ := hN.doF hI hn hc hw s1
            generalize Go.Proofs.YtanlobdidjednaaGreatDoor.doF ⟨s.tree, s.tab, notedF s.book c.session c.noted, s.at_⟩ c when_ = D at *
            unfold keepF
            refine ⟨g1.book.mono ?_, ?_⟩
            · intro k hk
              simp only
              repeat' split
              all_goals first | exact hk | (rw [keys_mput]; split; exact hk; simp [hk])
            · simp only
              repeat' split
              all_goals first | exact g1.tab | skip
              intro p hp
              rcases mem_mputT hp with rfl | hp
              · exact ⟨by simp only; omega, s3, by simp only; omega⟩
              · exact g1.tab p hp
theorem GdS.crowdL {when_ : Int} (ht : 0 ≤ when_ ∧ when_ ≤ 1000) (k : Nat) : ∀ {s : StT} {M : TreeT} {n : Nat}, GdS s → InvS s M n → n + M.length ≤ 10000 → GdS (Go.Proofs.YtanlobdidjednaaGreatDoor.crowdL when_ k s) := by
  induction k with
  | zero => exact fun h _ _ => h
  | succ k ih =>
    intro s M n h hM hn
    unfold Go.Proofs.YtanlobdidjednaaGreatDoor.crowdL
    split
    · exact h
    · rename_i id _
      obtain ⟨M1, n1, g1, g2, g3⟩ := endF_inv hM id when_
      exact ih (h.endF hM (by omega) id ht) g1 (by omega)
theorem crowd_none {when_ : Int} (k : Nat) : ∀ {s : StT}, (keys s.tab).Nodup → s.tab.length ≤ k → crowdF (crowdL when_ k s) = none := by
  induction k with
  | zero =>
    intro s _ h
    have : s.tab = [] := List.length_eq_zero_iff.1 (by omega)
    unfold crowdL crowdF
    rw [this]
    simp [sortI]
  | succ k ih =>
    intro s hn h
    unfold crowdL
    cases hc : crowdF s with
    | none => exact hc
    | some id =>
      simp only
      have hm : id ∈ keys s.tab := (sortI_mem _ _).1 (List.mem_of_find?_eq_some hc)
      have e : (endF s id when_).tab = mdel s.tab id := by
        show (closeF s.tab id).2 = _
        unfold closeF
        rw [if_pos hm]
      refine ih ?_ ?_
      · rw [e]; exact nodup_mdel hn id
      · have := length_mdel hn id hm
        rw [e]; omega
/-- behind each order -/
theorem GdS.applyC {s : StT} (h : GdS s) {M : TreeT} {n : Nat} (hM : InvS s M n) (hn : n ≤ 900) (ha : s.at_ ≤ 899) {c : CmdT} (hc : cmdR c = true) : GdS (Go.Proofs.YtanlobdidjednaaGreatDoor.applyC s c).2 ∧ crowdF (Go.Proofs.YtanlobdidjednaaGreatDoor.applyC s c).2 = none := by
  have h0 := hM.at0
  obtain ⟨c1, c2, c3, c4, c5, c6, c7⟩ := cmdR_at hc
  have hS : GdS ⟨s.tree, s.tab, s.book, s.at_ + 1⟩ := ⟨h.book, h.tab⟩
  have hI : InvS ⟨s.tree, s.tab, s.book, s.at_ + 1⟩ M n := ⟨hM.tree, hM.book, hM.ok, hM.nd, hM.len, hM.kept, by show 0 ≤ s.at_ + 1; omega, by show s.at_ + 1 ≤ 900; omega⟩
  obtain ⟨M1, n1, g1, g2, g3⟩ := cmdF_inv hI hc (when_ := s.at_ + 1) ⟨by omega, by omega⟩ hn
  have g4 := hS.cmdF hI hn hc (when_ := s.at_ + 1) ⟨by omega, by omega⟩
  have g5 := hM.tree.len
  unfold Go.Proofs.YtanlobdidjednaaGreatDoor.applyC
  exact ⟨GdS.crowdL ⟨by omega, by omega⟩ _ g4 g1 (by omega), crowd_none _ g1.nd (Nat.le_refl _)⟩
theorem count_le {α : Type} (f : α → Int) (c : Nat) : ∀ (K : List Int) (l : List α), (∀ x ∈ l, f x ∈ K) → (∀ k ∈ K, (l.filter fun x => decide (f x = k)).length ≤ c) → l.length ≤ c * K.length := by
  intro K
  induction K with
  | nil =>
    intro l h _
    cases l with
    | nil => simp
    | cons x r => exact absurd (h x (by simp)) (by simp)
  | cons k r ih =>
    intro l h1 h2
    have e : l.length = (l.filter fun x => decide (f x = k)).length + (l.filter fun x => !decide (f x = k)).length := by
      rw [← List.countP_eq_length_filter, ← List.countP_eq_length_filter]
      have := List.length_eq_countP_add_countP (fun x => decide (f x = k)) (l := l)
      simpa using this
    have h3 := h2 k (by simp)
    have h4 := ih (l.filter fun x => !decide (f x = k)) (fun x hx => by
      obtain ⟨a, b⟩ := List.mem_filter.1 hx
      rcases List.mem_cons.1 (h1 x a) with hh | hh
      · simp [hh] at b
      · exact hh) (fun j hj => by
      rw [List.filter_filter]
      refine Nat.le_trans ?_ (h2 j (by simp [hj]))
      rw [← List.countP_eq_length_filter, ← List.countP_eq_length_filter]
      refine List.countP_mono_left ?_
      intro x _ hx
      simp only [Bool.and_eq_true] at hx
      exact hx.1)
    rw [List.length_cons, Nat.mul_succ]
    omega
theorem nodup_le : ∀ {l K : List Int}, l.Nodup → (∀ x ∈ l, x ∈ K) → l.length ≤ K.length := by
  intro l
  induction l with
  | nil => intro K _ _; simp
  | cons a r ih =>
    intro K hn h
    obtain ⟨h1, h2⟩ := List.nodup_cons.1 hn
    have ha := h a (by simp)
    have := ih (K := K.erase a) h2 (fun x hx => (List.mem_erase_of_ne (fun e => by subst e; exact h1 hx)).2 (h x (by simp [hx])))
    rw [List.length_erase_of_mem ha] at this
    have := List.length_pos_of_mem ha
    simp only [List.length_cons]
    omega
theorem GdS.es_len {s : StT} (h : GdS s) (hc : crowdF s = none) (hl : s.tab.length ≤ 16) : s.book.es.length ≤ 80 := by
  have h1 := count_le (fun x : EvT => x.session) 5 (keys s.tab) s.book.es (fun x hx => (h.book.es x hx).2) (fun k hk => by
    unfold crowdF at hc
    have := List.find?_eq_none.1 hc k ((sortI_mem _ _).2 hk)
    unfold overF at this
    simp only [decide_eq_true_eq] at this
    omega)
  simp only [List.length_map] at h1
  omega
theorem GdS.nos_len {s : StT} (h : GdS s) (hl : s.tab.length ≤ 16) : s.book.nos.length ≤ 16 := by
  have h1 := nodup_le h.book.nd h.book.nos
  simp only [List.length_map] at h1
  omega
theorem GdS.good {s : StT} (h : GdS s) (hc : crowdF s = none) {M : TreeT} {n : Nat} (hM : InvS s M n) (hn : n ≤ 10000) : GoodW s.book := by
  refine ⟨hM.book.sorted, hM.book.ws, fun x hx => (h.book.ws x hx).1, by have := h.es_len hc hM.len; omega, fun x hx => (h.book.es x hx).1, by have := h.nos_len hM.len; omega, h.book.nd, fun p hp => ?_⟩
  have h1 := hM.ok p.1 (h.book.nos p.1 (List.mem_map.2 ⟨p, hp, rfl⟩))
  have h2 := hM.book.nos p.1
  have h3 := mget_some h.book.nd (show (p.1, p.2) ∈ s.book.nos from hp)
  rw [h3] at h2
  simp only [Option.getD_some] at h2
  exact ⟨h1.1, h1.2, h2.1, by omega⟩
theorem GdS.modT {s : StT} (h : GdS s) {M : TreeT} {n : Nat} (hM : InvS s M n) : ModT (normT s.tab) := by
  have hk : keys (normT s.tab) = sortI (keys s.tab) := by
    unfold normT keys
    rw [List.map_map]
    exact List.map_id _
  refine ⟨?_, by rw [normT_length]; exact hM.len, ?_⟩
  · rw [hk]; exact sortZ_lt hM.nd
  · intro p hp
    unfold normT at hp
    obtain ⟨k, hk, rfl⟩ := List.mem_map.1 hp
    have hk2 := (sortI_mem _ _).1 hk
    obtain ⟨v, hv⟩ := mem_keys_mget.1 hk2
    have h1 := h.tab _ (mget_mem hv)
    have h2 := hM.ok k hk2
    have h3 := hM.kept _ (mget_mem hv)
    rw [hv]
    exact ⟨h2.1, h2.2, h1.1, h1.2.1, h1.2.2, h3⟩
theorem mget_normT {m : Tab} (h : (keys m).Nodup) (k : Int) : mget (normT m) k = mget m k := by
  have hk : keys (normT m) = sortI (keys m) := by
    unfold normT keys
    rw [List.map_map]
    exact List.map_id _
  have hn : (keys (normT m)).Nodup := by rw [hk]; exact (sortZ_perm _).nodup_iff.2 h
  cases hm : mget m k with
  | none =>
    rw [mget_none] at hm ⊢
    rw [hk, sortI_mem]
    exact hm
  | some v =>
    refine mget_some hn ?_
    unfold normT
    rw [List.mem_map]
    refine ⟨k, (sortI_mem _ _).2 (mem_keys_mget.2 ⟨v, hm⟩), ?_⟩
    rw [hm]
    rfl
/-- a state as it is read back -/
def canS (s : StT) : StT := ⟨normN s.tree, normT s.tab, ⟨s.book.ws, s.book.es, normZ s.book.nos⟩, s.at_⟩
theorem GdS.canon {s : StT} (h : GdS s) {M : TreeT} {n : Nat} (hM : InvS s M n) : RelS s (canS s) := by
  refine ⟨⟨M, n, hM.tree, ?_⟩, ⟨mget_normT hM.nd, hM.nd, (h.modT hM).nodup⟩, ⟨rfl, rfl, mget_normZ h.book.nd⟩, rfl⟩
  show Mod (normN s.tree) M n
  rw [hM.tree.norm]
  exact hM.tree.self
theorem lay_parts (s : StT) : layS s = num6 s.at_ ++ (layN s.tree ++ (tabB (normT s.tab) ++ layW s.book)) := by
  have e : layB s.tab = tabB (normT s.tab) := by
    unfold layB tabB
    rw [normT_length]
  unfold layS
  rw [e]
  simp [nums]
theorem GdS.read {s : StT} (h : GdS s) (hc : crowdF s = none) {M : TreeT} {n : Nat} (hM : InvS s M n) (hn : n ≤ 1000) : rdS (layS s) = (canS s, ([], false)) := by
  have h0 := hM.at0
  have h1 := hM.at1
  have e3 := readB_tail (h.good hc hM (by omega)) []
  rw [List.append_nil] at e3
  unfold rdS
  rw [lay_parts, rn_app s.at_ _ _ h0 (by omega) (by omega)]
  simp only
  rw [hM.tree.layN_eq, readTr_tail (hM.tree.good hn)]
  simp only
  rw [readT_tail (h.modT hM)]
  simp only
  rw [e3]
  unfold canS
  rw [hM.tree.norm]
theorem rdTr_up (x : RS) (h : (readTr x).2.2 = false) : x.2 = false := by
  unfold readTr at h
  cases hs : treR (rn x 60).2 (rn x 60).1.toNat with
  | none => rw [hs] at h; simp [fl] at h
  | some q =>
    obtain ⟨m, y⟩ := q
    rw [hs] at h
    simp only at h
    split at h
    · simp [fl] at h
    · exact (((rn_took x 60).trans (treR_took _ _ _ _ hs)) h).1
theorem rdT_up (x : RS) (h : (readT x).2.2 = false) : x.2 = false := by
  unfold readT at h
  cases hs : stR (rn x 16).2 (rn x 16).1.toNat with
  | none => rw [hs] at h; simp [fl] at h
  | some q =>
    obtain ⟨m, y⟩ := q
    rw [hs] at h
    simp only at h
    split at h
    · rename_i hy; rw [hy] at h; cases h
    · exact (((rn_took x 16).trans (stR_took _ _ _ _ hs)) h).1
theorem rdB_up (x : RS) (h : (readB x).2.2 = false) : x.2 = false := by
  unfold readB at h
  simp only at h
  exact (wsP_took _ (esP_took _ (nosP_took _ h).1).1).1
theorem take_app (a b : List UInt8) (k : Nat) (h : a.length ≤ k) : (a ++ b).take k = a ++ b.take (k - a.length) := by
  rw [List.take_append, List.take_of_length_le h]
theorem GdS.cut {s : StT} (h : GdS s) (hc : crowdF s = none) {M : TreeT} {n : Nat} (hM : InvS s M n) (hn : n ≤ 1000) {k : Nat} (hk : k < (layS s).length) : rdone (rdS ((layS s).take k)).2 ≠ 0 := by
  have h0 := hM.at0
  have h1 := hM.at1
  have hf : (rdS ((layS s).take k)).2.2 = true := by
    cases hx : (rdS ((layS s).take k)).2.2 with
    | true => rfl
    | false =>
      exfalso
      unfold rdS at hx
      simp only at hx
      have hx3 := rdB_up _ hx
      have hx2 := rdT_up _ hx3
      have hx1 := rdTr_up _ hx2
      have l6 : (num6 s.at_).length = 6 := num6_length _
      have hk6 : 6 ≤ k := by
        have h2 := (rn_took _ _ hx1).2
        have h3 := congrArg List.length h2
        simp only [List.length_append, List.length_take] at h3
        have l7 : (num6 (rn ((layS s).take k, false) 281474976710655).1).length = 6 := num6_length _
        omega
      rw [lay_parts] at hk hx hx1 hx2 hx3
      rw [take_app _ _ _ (by omega), l6, rn_app s.at_ _ _ h0 (by omega) (by omega)] at hx hx2 hx3
      simp only [List.length_append, l6] at hk
      simp only at hx hx2 hx3
      rw [hM.tree.layN_eq] at hx hx2 hx3 hk
      by_cases hk1 : k - 6 < (layN M).length
      · rw [List.take_append_of_le_length (by omega), readTr_cut (hM.tree.good hn) _ hk1] at hx2
        cases hx2
      · rw [take_app _ _ _ (by omega), readTr_tail (hM.tree.good hn)] at hx hx3
        simp only at hx hx3
        by_cases hk2 : k - 6 - (layN M).length < (tabB (normT s.tab)).length
        · rw [List.take_append_of_le_length (by omega), readT_cut (h.modT hM) _ hk2] at hx3
          cases hx3
        · rw [take_app _ _ _ (by omega), readT_tail (h.modT hM)] at hx
          simp only at hx
          rw [readB_cut (h.good hc hM (by omega)) _ (by omega)] at hx
          cases hx
  unfold rdone
  rw [if_pos (.inl hf)]
  decide
end Go.Proofs.YtanlobdidjednaaGreatDoor
