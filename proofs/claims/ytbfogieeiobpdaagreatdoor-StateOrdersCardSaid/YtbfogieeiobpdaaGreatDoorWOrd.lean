/- Plain laws of the order of watches: it is linear; where a watch stands in a sorted row. No condition. -/
import Derived.Test.YtbfogieeiobpdaaGreatDoorBookH
set_option linter.unusedVariables false
set_option linter.unusedSimpArgs false
namespace Go.Proofs.YtbfogieeiobpdaaGreatDoor

theorem bl_irr (x : List UInt8) : Op.bytesLess x x = false := by
  induction x with
  | nil => rfl
  | cons a x ih =>
    have : ¬ a < a := UInt8.lt_irrefl a
    simp [Op.bytesLess, ih, this]
theorem bl_tri (x y : List UInt8) : Op.bytesLess x y = false → x ≠ y → Op.bytesLess y x = true := by
  induction x generalizing y with
  | nil =>
    intro h hn
    cases y with
    | nil => exact absurd rfl hn
    | cons b y => simp [Op.bytesLess] at h
  | cons a x ih =>
    intro h hn
    cases y with
    | nil => rfl
    | cons b y =>
      simp only [Op.bytesLess, Bool.or_eq_false_iff, decide_eq_false_iff_not, Bool.and_eq_false_iff, beq_eq_false_iff_ne] at h
      obtain ⟨h1, h2⟩ := h
      by_cases hab : a = b
      · subst hab
        have h3 := ih y (h2.resolve_left (by simp)) (fun e => hn (by rw [e]))
        simp [Op.bytesLess, h3]
      · have h4 : b < a := by
          rw [UInt8.lt_iff_toNat_lt] at h1 ⊢
          have : a.toNat ≠ b.toNat := fun e => hab (UInt8.toNat.inj e)
          omega
        simp [Op.bytesLess, h4]
theorem bl_trans (x y z : List UInt8) : Op.bytesLess x y = true → Op.bytesLess y z = true → Op.bytesLess x z = true := by
  induction x generalizing y z with
  | nil =>
    intro h1 h2
    cases z with
    | nil => cases y <;> simp [Op.bytesLess] at h2
    | cons c z => rfl
  | cons a x ih =>
    intro h1 h2
    cases y with
    | nil => simp [Op.bytesLess] at h1
    | cons b y =>
      cases z with
      | nil => simp [Op.bytesLess] at h2
      | cons c z =>
        simp only [Op.bytesLess, Bool.or_eq_true, decide_eq_true_eq, Bool.and_eq_true, beq_iff_eq] at h1 h2 ⊢
        simp only [UInt8.lt_iff_toNat_lt] at h1 h2 ⊢
        rcases h1 with h1 | ⟨rfl, h1⟩
        · rcases h2 with h2 | ⟨rfl, h2⟩
          · exact .inl (by omega)
          · exact .inl h1
        · rcases h2 with h2 | ⟨rfl, h2⟩
          · exact .inl h2
          · exact .inr ⟨rfl, ih y z h1 h2⟩
theorem bl_asym (x y : List UInt8) (h : Op.bytesLess x y = true) : Op.bytesLess y x = false := by
  cases h2 : Op.bytesLess y x with
  | false => rfl
  | true =>
    have := bl_trans x y x h h2
    rw [bl_irr] at this
    cases this

theorem cmpI_val (a b : Int) : (a < b ∧ cmpI a b = -1) ∨ (a = b ∧ cmpI a b = 0) ∨ (b < a ∧ cmpI a b = 1) := by
  unfold cmpI
  split
  · exact .inl ⟨by assumption, rfl⟩
  · split
    · exact .inr (.inr ⟨by assumption, rfl⟩)
    · exact .inr (.inl ⟨by omega, rfl⟩)
theorem cmpS_val (a b : List UInt8) : (Op.bytesLess a b = true ∧ cmpS a b = -1) ∨ (a = b ∧ cmpS a b = 0) ∨ (Op.bytesLess b a = true ∧ cmpS a b = 1) := by
  unfold cmpS
  by_cases h1 : Op.bytesLess a b = true
  · exact .inl ⟨h1, by rw [if_pos h1]⟩
  · rw [if_neg h1]
    by_cases h2 : a = b
    · exact .inr (.inl ⟨h2, by rw [if_pos h2]⟩)
    · exact .inr (.inr ⟨bl_tri a b (by simpa using h1) h2, by rw [if_neg h2]⟩)
theorem oneF_inj (a b : Bool) : oneF a = oneF b ↔ a = b := by cases a <;> cases b <;> simp [oneF]
theorem ordF_val (x y : WatT) : ∃ c1 c2 c3 c4 : Int, ordF x y = (if c1 ≠ 0 then c1 else if c2 ≠ 0 then c2 else if c3 ≠ 0 then c3 else c4) ∧ c1 = cmpI x.session y.session ∧ c2 = cmpS x.path y.path ∧ c3 = cmpI (oneF x.kids) (oneF y.kids) ∧ c4 = cmpI (oneF x.once) (oneF y.once) := by
  refine ⟨_, _, _, _, ?_, rfl, rfl, rfl, rfl⟩
  simp only [ordF, orF]
  generalize cmpI x.session y.session = c1
  generalize cmpS x.path y.path = c2
  generalize cmpI (oneF x.kids) (oneF y.kids) = c3
  generalize cmpI (oneF x.once) (oneF y.once) = c4
  by_cases h1 : c1 = 0 <;> by_cases h2 : c2 = 0 <;> by_cases h3 : c3 = 0 <;> by_cases h4 : c4 = 0 <;> simp [h1, h2, h3, h4]
theorem ord_zero (x y : WatT) : ordF x y = 0 ↔ x = y := by
  obtain ⟨c1, c2, c3, c4, e, h1, h2, h3, h4⟩ := ordF_val x y
  obtain ⟨s1, p1, k1, o1⟩ := x
  obtain ⟨s2, p2, k2, o2⟩ := y
  simp only at h1 h2 h3 h4
  have v1 := cmpI_val s1 s2
  have v2 := cmpS_val p1 p2
  have v3 := cmpI_val (oneF k1) (oneF k2)
  have v4 := cmpI_val (oneF o1) (oneF o2)
  rw [← h1] at v1
  rw [← h2] at v2
  rw [← h3] at v3
  rw [← h4] at v4
  constructor
  · intro h0
    rw [e] at h0
    have a1 : c1 = 0 := by split at h0 <;> omega
    rw [if_neg (by omega)] at h0
    have a2 : c2 = 0 := by split at h0 <;> omega
    rw [if_neg (by omega)] at h0
    have a3 : c3 = 0 := by split at h0 <;> omega
    rw [if_neg (by omega)] at h0
    have b1 : s1 = s2 := by omega
    have b2 : p1 = p2 := by
      rcases v2 with ⟨_, h⟩ | ⟨h, _⟩ | ⟨_, h⟩
      · omega
      · exact h
      · omega
    have b3 : oneF k1 = oneF k2 := by omega
    have b4 : oneF o1 = oneF o2 := by omega
    rw [oneF_inj] at b3 b4
    subst b1 b2 b3 b4
    rfl
  · intro h0
    injection h0 with b1 b2 b3 b4
    subst b1 b2 b3 b4
    rw [e]
    have a1 : c1 = 0 := by omega
    have a2 : c2 = 0 := by
      rcases v2 with ⟨h, _⟩ | ⟨_, h⟩ | ⟨h, _⟩
      · rw [bl_irr] at h; cases h
      · exact h
      · rw [bl_irr] at h; cases h
    have a3 : c3 = 0 := by omega
    have a4 : c4 = 0 := by omega
    simp [a1, a2, a3, a4]
theorem cmpS_trans (x y z : List UInt8) : (cmpS x y = 0 → cmpS x z = cmpS y z) ∧ (cmpS y z = 0 → cmpS x z = cmpS x y) ∧ (cmpS x y < 0 → cmpS y z < 0 → cmpS x z < 0) := by
  have h1 := cmpS_val x y
  have h2 := cmpS_val y z
  refine ⟨fun h => ?_, fun h => ?_, fun h3 h4 => ?_⟩
  · rcases h1 with ⟨_, e⟩ | ⟨rfl, _⟩ | ⟨_, e⟩
    · omega
    · rfl
    · omega
  · rcases h2 with ⟨_, e⟩ | ⟨rfl, _⟩ | ⟨_, e⟩
    · omega
    · rfl
    · omega
  · have a : Op.bytesLess x y = true := by
      rcases h1 with ⟨h, _⟩ | ⟨_, e⟩ | ⟨_, e⟩
      · exact h
      · omega
      · omega
    have b : Op.bytesLess y z = true := by
      rcases h2 with ⟨h, _⟩ | ⟨_, e⟩ | ⟨_, e⟩
      · exact h
      · omega
      · omega
    unfold cmpS
    rw [if_pos (bl_trans _ _ _ a b)]
    decide
theorem cmpI_trans (x y z : Int) : (cmpI x y = 0 → cmpI x z = cmpI y z) ∧ (cmpI y z = 0 → cmpI x z = cmpI x y) ∧ (cmpI x y < 0 → cmpI y z < 0 → cmpI x z < 0) := by
  have h1 := cmpI_val x y
  have h2 := cmpI_val y z
  have h3 := cmpI_val x z
  refine ⟨fun h => by omega, fun h => by omega, fun h h' => by omega⟩
theorem lex_neg {a b c r s t : Int} (t1 : a = 0 → c = b) (t2 : b = 0 → c = a) (t3 : a < 0 → b < 0 → c < 0) (hr : r < 0 → s < 0 → t < 0) (h1 : (if a ≠ 0 then a else r) < 0) (h2 : (if b ≠ 0 then b else s) < 0) : (if c ≠ 0 then c else t) < 0 := by
  split at h1 <;> split at h2 <;> split <;> omega
theorem lex_anti {a r s : Int} (h : s = -r) : (if -a ≠ 0 then -a else s) = -(if a ≠ 0 then a else r) := by
  split <;> split <;> omega
theorem cmpI_anti (x y : Int) : cmpI y x = - cmpI x y := by
  have h1 := cmpI_val x y
  have h2 := cmpI_val y x
  omega
theorem cmpS_anti (x y : List UInt8) : cmpS y x = - cmpS x y := by
  have h2 := cmpS_val x y
  rcases h2 with ⟨h, e⟩ | ⟨rfl, e⟩ | ⟨h, e⟩
  · rw [e]
    unfold cmpS
    rw [if_neg (by rw [bl_asym _ _ h]; simp), if_neg (fun e => by subst e; rw [bl_irr] at h; cases h)]
    decide
  · rw [e]; decide
  · rw [e]
    unfold cmpS
    rw [if_pos h]
theorem take_tw {α : Type} (p : α → Bool) (ws : List α) : ws.take (ws.takeWhile p).length = ws.takeWhile p := by
  induction ws with
  | nil => rfl
  | cons a r ih =>
    by_cases h : p a = true
    · simp [List.takeWhile_cons, h, ih]
    · simp [List.takeWhile_cons, h]
theorem mem_tw {α : Type} (p : α → Bool) (ws : List α) : ∀ q ∈ ws.takeWhile p, p q = true := by
  induction ws with
  | nil => intro q h; cases h
  | cons a r ih =>
    intro q hq
    by_cases h : p a = true
    · rw [List.takeWhile_cons, if_pos h] at hq
      rcases List.mem_cons.1 hq with rfl | hq
      · exact h
      · exact ih q hq
    · rw [List.takeWhile_cons, if_neg h] at hq
      cases hq
theorem low_here (ws : List WatT) (x : WatT) (hlt : lowF ws x < ws.length) : ¬ ordF ws[lowF ws x] x < 0 := by
  intro h0
  unfold lowF at hlt h0
  generalize hp : (fun q => decide (ordF q x < 0)) = p at *
  have h1 : p ws[(ws.takeWhile p).length] = true := (congrFun hp _).symm.trans (decide_eq_true h0)
  have h2 : (ws.dropWhile p) ≠ [] := by
    intro e
    have := congrArg List.length (List.takeWhile_append_dropWhile (p := p) (l := ws))
    rw [e] at this
    simp at this
    omega
  have h3 : ws[(ws.takeWhile p).length] = (ws.dropWhile p).head h2 := by
    have e : ws = ws.takeWhile p ++ ws.dropWhile p := (List.takeWhile_append_dropWhile).symm
    have : (ws.takeWhile p ++ ws.dropWhile p)[(ws.takeWhile p).length]? = some ((ws.dropWhile p).head h2) := by
      rw [List.getElem?_append_right (Nat.le_refl _), Nat.sub_self, ← List.head?_eq_getElem?, List.head?_eq_some_head h2]
    rw [← e, List.getElem?_eq_getElem hlt] at this
    injection this
  rw [h3] at h1
  have := List.head_dropWhile_not p h2
  rw [h1] at this
  cases this
theorem ord_trans {x y z : WatT} (hxy : ordF x y < 0) (hyz : ordF y z < 0) : ordF x z < 0 := by
  obtain ⟨a1, a2, a3, a4, e1, h1, h2, h3, h4⟩ := ordF_val x y
  obtain ⟨b1, b2, b3, b4, e2, g1, g2, g3, g4⟩ := ordF_val y z
  obtain ⟨c1, c2, c3, c4, e3, i1, i2, i3, i4⟩ := ordF_val x z
  have t1 := cmpI_trans x.session y.session z.session
  have t2 := cmpS_trans x.path y.path z.path
  have t3 := cmpI_trans (oneF x.kids) (oneF y.kids) (oneF z.kids)
  have t4 := cmpI_trans (oneF x.once) (oneF y.once) (oneF z.once)
  rw [← h1, ← g1, ← i1] at t1
  rw [← h2, ← g2, ← i2] at t2
  rw [← h3, ← g3, ← i3] at t3
  rw [← h4, ← g4, ← i4] at t4
  rw [e1] at hxy
  rw [e2] at hyz
  rw [e3]
  clear e1 e2 e3 h1 h2 h3 h4 g1 g2 g3 g4 i1 i2 i3 i4
  obtain ⟨t11, t12, t13⟩ := t1
  obtain ⟨t21, t22, t23⟩ := t2
  obtain ⟨t31, t32, t33⟩ := t3
  obtain ⟨t41, t42, t43⟩ := t4
  exact lex_neg t11 t12 t13 (lex_neg t21 t22 t23 (lex_neg t31 t32 t33 t43)) hxy hyz
theorem ord_anti (x y : WatT) : ordF x y < 0 ∨ x = y ∨ ordF y x < 0 := by
  obtain ⟨a1, a2, a3, a4, e1, h1, h2, h3, h4⟩ := ordF_val x y
  obtain ⟨b1, b2, b3, b4, e2, g1, g2, g3, g4⟩ := ordF_val y x
  by_cases h0 : ordF x y = 0
  · exact .inr (.inl ((ord_zero x y).1 h0))
  have v1 := cmpI_anti x.session y.session
  have v2 := cmpS_anti x.path y.path
  have v3 := cmpI_anti (oneF x.kids) (oneF y.kids)
  have v4 := cmpI_anti (oneF x.once) (oneF y.once)
  rw [← h1, ← g1] at v1
  rw [← h2, ← g2] at v2
  rw [← h3, ← g3] at v3
  rw [← h4, ← g4] at v4
  have e : ordF y x = - ordF x y := by
    rw [e1, e2, v1, v2, v3, v4]
    exact lex_anti (lex_anti (lex_anti rfl))
  omega
theorem ord_asym {x y : WatT} (h : ordF x y < 0) : ¬ ordF y x < 0 := fun h2 => by
  have h3 := ord_trans h h2
  rw [(ord_zero x x).2 rfl] at h3
  omega

/-- in order -/
def SortedW (ws : List WatT) : Prop := ws.Pairwise fun p q => ordF p q < 0
theorem SortedW.parts {ws : List WatT} (h : SortedW ws) (x : WatT) : Parts ws x := by
  intro a b p q hab hp hq hx
  rcases Nat.eq_or_lt_of_le hab with rfl | hlt
  · rw [hp] at hq
    injection hq with hq
    rw [hq]
    exact hx
  · obtain ⟨ha, rfl⟩ := List.getElem?_eq_some_iff.1 hp
    obtain ⟨hb, rfl⟩ := List.getElem?_eq_some_iff.1 hq
    exact ord_trans (List.pairwise_iff_getElem.1 h a b ha hb hlt) hx
theorem there_iff {ws : List WatT} (h : SortedW ws) (x : WatT) : thereF ws x = true ↔ x ∈ ws := by
  unfold thereF
  constructor
  · intro h1
    split at h1
    · rename_i q hq
      have := (ord_zero q x).1 (of_decide_eq_true h1)
      subst this
      exact List.mem_of_getElem? hq
    · cases h1
  · intro h1
    obtain ⟨i, hi, rfl⟩ := List.getElem_of_mem h1
    have e : lowF ws ws[i] = i := by
      refine low_at (Nat.le_of_lt hi) (fun t q ht hq => ?_) (fun q hq => ?_)
      · obtain ⟨h2, rfl⟩ := List.getElem?_eq_some_iff.1 hq
        exact List.pairwise_iff_getElem.1 h t i h2 hi ht
      · rw [List.getElem?_eq_getElem hi] at hq
        injection hq with hq
        rw [← hq, (ord_zero _ _).2 rfl]
        decide
    rw [e, List.getElem?_eq_getElem hi]
    exact decide_eq_true ((ord_zero _ _).2 rfl)
/-- where a watch that is not there stands: those ahead of it, those behind it -/
theorem low_split {ws : List WatT} (h : SortedW ws) {x : WatT} (hx : x ∉ ws) : (∀ q ∈ ws.take (lowF ws x), ordF q x < 0) ∧ (∀ q ∈ ws.drop (lowF ws x), ordF x q < 0) := by
  have ha : ∀ q ∈ ws.take (lowF ws x), ordF q x < 0 := by
    intro q hq
    unfold lowF at hq
    rw [take_tw] at hq
    exact of_decide_eq_true (mem_tw _ ws q hq)
  refine ⟨ha, fun q hq => ?_⟩
  have hmem : q ∈ ws := List.mem_of_mem_drop hq
  rcases ord_anti q x with h1 | h1 | h1
  · exfalso
    have hne : ws.drop (lowF ws x) ≠ [] := fun e => by rw [e] at hq; cases hq
    have hlt : lowF ws x < ws.length := by
      rcases Nat.lt_or_ge (lowF ws x) ws.length with h2 | h2
      · exact h2
      · exact absurd (List.drop_eq_nil_of_le h2) hne
    have hd : ¬ ordF ws[lowF ws x] x < 0 := low_here ws x hlt
    obtain ⟨j, hj, rfl⟩ := List.getElem_of_mem hq
    rw [List.length_drop] at hj
    rw [List.getElem_drop] at h1
    exact hd (h.parts x (lowF ws x) (lowF ws x + j) _ _ (Nat.le_add_right _ _) (List.getElem?_eq_getElem hlt) (List.getElem?_eq_getElem (by omega)) h1)
  · subst h1
    exact absurd hmem hx
  · exact h1
theorem SortedW.ins {ws : List WatT} (h : SortedW ws) {x : WatT} (hx : x ∉ ws) : SortedW (ws.take (lowF ws x) ++ [x] ++ ws.drop (lowF ws x)) := by
  obtain ⟨h1, h2⟩ := low_split h hx
  unfold SortedW
  rw [List.append_assoc, List.pairwise_append]
  refine ⟨h.sublist (List.take_sublist _ _), ?_, ?_⟩
  · rw [List.singleton_append, List.pairwise_cons]
    exact ⟨h2, h.sublist (List.drop_sublist _ _)⟩
  · intro a ha b hb
    simp only [List.singleton_append, List.mem_cons] at hb
    rcases hb with rfl | hb
    · exact h1 a ha
    · exact ord_trans (h1 a ha) (h2 b hb)
theorem SortedW.filter {ws : List WatT} (h : SortedW ws) (p : WatT → Bool) : SortedW (ws.filter p) := h.sublist List.filter_sublist
theorem SortedW.nil : SortedW [] := List.Pairwise.nil

end Go.Proofs.YtbfogieeiobpdaaGreatDoor
