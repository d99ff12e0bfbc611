/- The plain form of the state: what commands come to. No condition. -/
import Derived.Test.YtanlobdidjednaaGreatDoorTModM
import Derived.Test.YtanlobdidjednaaGreatDoorOpsM
import Derived.Test.YtanlobdidjednaaGreatDoorSessM
import Derived.Test.YtanlobdidjednaaGreatDoorWatM
set_option linter.unusedVariables false
set_option linter.unusedSimpArgs false
namespace Go.Proofs.YtanlobdidjednaaGreatDoor
open Go.RowKit

structure StT where
  tree : TreeT
  tab : Tab
  book : BookT
  at_ : Int
abbrev Chg := List UInt8 × Int
/-- one operation: its part of the result, what became of a node, the error, the tree behind it -/
structure StepT where
  out : OutT
  chg : Chg
  err : Int
  tree : TreeT
def stepF (T : TreeT) (o : OpT) (ss when_ : Int) : StepT :=
  if o.does = 1 then ⟨⟨(createF T o.path o.data (if o.own = true then ss else 0) when_ o.serial).1, 0⟩, ((createF T o.path o.data (if o.own = true then ss else 0) when_ o.serial).1, 1), (createF T o.path o.data (if o.own = true then ss else 0) when_ o.serial).2.1, (createF T o.path o.data (if o.own = true then ss else 0) when_ o.serial).2.2⟩
  else if o.does = 2 then ⟨⟨o.path, (setF T o.path o.data o.version when_).1⟩, (o.path, 3), (setF T o.path o.data o.version when_).2.1, (setF T o.path o.data o.version when_).2.2⟩
  else if o.does = 3 then ⟨⟨o.path, 0⟩, (o.path, 2), (deleteF T o.path o.version).1, (deleteF T o.path o.version).2⟩
  else if o.does = 4 then ⟨⟨o.path, 0⟩, ([], 0), (atF T o.path o.version).2, T⟩
  else ⟨⟨[], 0⟩, ([], 0), 1, T⟩
/-- operations behind k that were done: the error and where, the tree, the results, the changes -/
def updL (ss when_ : Int) : List OpT → Nat → TreeT → List OutT → List Chg → Int × Nat × TreeT × List OutT × List Chg
  | [], k, T, os, cs => (0, k, T, os, cs)
  | o :: r, k, T, os, cs => if (stepF T o ss when_).err ≠ 0 then ((stepF T o ss when_).err, k, T, os, cs) else
      updL ss when_ r (k + 1) (stepF T o ss when_).tree (os ++ [(stepF T o ss when_).out]) (if (stepF T o ss when_).chg.2 ≠ 0 then cs ++ [(stepF T o ss when_).chg] else cs)
def firesF (B : BookT) (cs : List Chg) (when_ : Int) : BookT := cs.foldl (fun B c => fireF B c.1 c.2 when_) B
def updateF (s : StT) (c : CmdT) (when_ : Int) : ResT × StT :=
  if (updL c.session when_ c.ops 0 s.tree [] []).1 ≠ 0 then (⟨(updL c.session when_ c.ops 0 s.tree [] []).1, (updL c.session when_ c.ops 0 s.tree [] []).2.1, [], when_⟩, s)
  else (⟨0, 0, (updL c.session when_ c.ops 0 s.tree [] []).2.2.2.1, when_⟩, ⟨(updL c.session when_ c.ops 0 s.tree [] []).2.2.1, s.tab, firesF s.book (updL c.session when_ c.ops 0 s.tree [] []).2.2.2.2 when_, s.at_⟩)
def endL (when_ : Int) : List (List UInt8) → TreeT → BookT → TreeT × BookT
  | [], T, B => (T, B)
  | p :: r, T, B => if (deleteF T p (-1)).1 = 0 then endL when_ r (deleteF T p (-1)).2 (fireF B p 2 when_) else endL when_ r (deleteF T p (-1)).2 B
def endF (s : StT) (id when_ : Int) : StT :=
  ⟨(endL when_ (ownedF s.tree id).reverse s.tree s.book).1, (closeF s.tab id).2, dropF (endL when_ (ownedF s.tree id).reverse s.tree s.book).2 id, s.at_⟩
def doF (s : StT) (c : CmdT) (when_ : Int) : ResT × StT :=
  if c.kind = 3 then updateF s c when_
  else if c.kind = 4 then (⟨(addF s.book ⟨c.session, c.path, c.kids, c.once⟩).1, 0, [], when_⟩, ⟨s.tree, s.tab, (addF s.book ⟨c.session, c.path, c.kids, c.once⟩).2, s.at_⟩)
  else (⟨0, 0, [], when_⟩, s)
def cmdF (s : StT) (c : CmdT) (when_ : Int) : ResT × StT :=
  if c.kind = 0 then (⟨0, 0, [], when_⟩, s)
  else if c.kind = 1 then (⟨(openF s.tab c.session).1, 0, [], when_⟩, ⟨s.tree, (openF s.tab c.session).2, s.book, s.at_⟩)
  else if (seenF s.tab c.session c.req).2.2 ≠ 0 then (⟨(seenF s.tab c.session c.req).2.2, 0, [], when_⟩, s)
  else if (seenF s.tab c.session c.req).2.1 = true then ((ansF (seenF s.tab c.session c.req).1).1, s)
  else if c.kind = 2 then (⟨0, 0, [], when_⟩, endF ⟨s.tree, s.tab, notedF s.book c.session c.noted, s.at_⟩ c.session when_)
  else ((doF ⟨s.tree, s.tab, notedF s.book c.session c.noted, s.at_⟩ c when_).1,
    ⟨(doF ⟨s.tree, s.tab, notedF s.book c.session c.noted, s.at_⟩ c when_).2.tree,
     (keepF (doF ⟨s.tree, s.tab, notedF s.book c.session c.noted, s.at_⟩ c when_).2.tab c.session c.req (resB (doF ⟨s.tree, s.tab, notedF s.book c.session c.noted, s.at_⟩ c when_).1)).2,
     (doF ⟨s.tree, s.tab, notedF s.book c.session c.noted, s.at_⟩ c when_).2.book, (doF ⟨s.tree, s.tab, notedF s.book c.session c.noted, s.at_⟩ c when_).2.at_⟩)
/-- the first session with too many events -/
def overF (B : BookT) (id : Int) : Bool := decide (5 < (B.es.filter fun x => decide (x.session = id)).length)
def crowdF (s : StT) : Option Int := (sortI (keys s.tab)).find? fun id => overF s.book id
def crowdL (when_ : Int) : Nat → StT → StT
  | 0, s => s
  | n + 1, s => match crowdF s with
    | none => s
    | some id => crowdL when_ n (endF s id when_)
def cmdOf (t : List UInt8) : CmdT := if (readF t).2 ≠ 0 then noCmd else (readF t).1
def applyC (s : StT) (c : CmdT) : ResT × StT :=
  ((cmdF ⟨s.tree, s.tab, s.book, s.at_ + 1⟩ c (s.at_ + 1)).1, crowdL (s.at_ + 1) (cmdF ⟨s.tree, s.tab, s.book, s.at_ + 1⟩ c (s.at_ + 1)).2.tab.length (cmdF ⟨s.tree, s.tab, s.book, s.at_ + 1⟩ c (s.at_ + 1)).2)
def applyF (s : StT) (t : List UInt8) : ResT × StT := applyC s (cmdOf t)
def st0 : StT := ⟨rootT, [], ⟨[], [], []⟩, 0⟩

/-! ### Trees: what an operation does -/
theorem set_len {T : TreeT} (s data : List UInt8) (v when_ : Int) : (setF T s data v when_).2.2.length ≤ T.length + 1 := by
  unfold setF
  repeat' split
  all_goals simp only
  all_goals first | omega | (rw [length_mput]; split <;> omega)
theorem create_len (T : TreeT) (s data : List UInt8) (owner when_ : Int) (f : Bool) : (createF T s data owner when_ f).2.2.length ≤ T.length + 1 := by
  by_cases h0 : (createF T s data owner when_ f).2.1 = 0
  · obtain ⟨a, nm, m1, m2, m3, m4, m5, m6, m7, m8, m9, m10⟩ := createF_ok h0
    rw [m10]
    simp only
    rw [length_mput, length_mput, if_pos (mem_keys_mget.2 ⟨a, m1⟩)]
    split <;> omega
  · rw [createF_bad h0]; omega
theorem delete_bad {T : TreeT} {s : List UInt8} {v : Int} (h : (deleteF T s v).1 ≠ 0) : (deleteF T s v).2 = T := by
  unfold deleteF at h ⊢
  repeat' split
  all_goals first | rfl | (rename_i h1 h2 h3; rw [if_neg h1, if_neg h2, if_neg h3] at h; exact absurd rfl h)
theorem atF_key {T : TreeT} {s : List UInt8} {v : Int} (h0 : (atF T s v).2 = 0) : s ∈ keys T := by
  have h2 := at_get h0
  unfold getF at h2
  split at h2
  · cases hm : mget T s with
    | none => rw [hm] at h2; simp at h2
    | some a => exact mem_keys_mget.2 ⟨a, hm⟩
  · rename_i hc; exact absurd h2 hc
theorem Mod.nodupT {T M : TreeT} {n : Nat} (h : Mod T M n) : (keys T).Nodup := h.keysT.nodup_iff.2 h.nodup
theorem delete_len {T M : TreeT} {n : Nat} (hM : Mod T M n) {s : List UInt8} {v : Int} (h : (deleteF T s v).1 = 0) : (deleteF T s v).2.length + 1 = T.length := by
  unfold deleteF at h ⊢
  split
  · rename_i h1; rw [if_pos h1] at h; exact absurd h h1
  · rename_i h1
    split
    · rename_i h2; rw [if_neg h1, if_pos h2] at h; cases h
    · rename_i h2
      split
      · rename_i h3; rw [if_neg h1, if_neg h2, if_pos h3] at h; cases h
      · simp only [ne_eq, Decidable.not_not] at h1
        have hin : s ∈ keys T := atF_key h1
        have hinM := hM.keysT.mem_iff.1 hin
        have hup : (upF s).1 ∈ keys T := by
          rcases (hM.ok s hinM).2 with e | e
          · exact absurd e h2
          · exact hM.keysT.mem_iff.2 e
        have hn := nodup_mput hM.nodupT (upF s).1 (lessN ((mget T (upF s).1).getD zN))
        have hk : s ∈ keys (mput T (upF s).1 (lessN ((mget T (upF s).1).getD zN))) := by rw [keys_mput, if_pos hup]; exact hin
        have := length_mdel hn s hk
        rw [length_mput, if_pos hup] at this
        exact this
theorem step_mod {T M : TreeT} {n : Nat} (h : Mod T M n) (hn : n < 1000) (o : OpT) (h1 : 1 ≤ o.does) (h4 : o.does ≤ 4) {ss when_ : Int} (hss : 0 ≤ ss ∧ ss ≤ 281474976710655) (hw : 0 ≤ when_ ∧ when_ ≤ 1000) :
    ∃ M' n', Mod (stepF T o ss when_).tree M' n' ∧ n' ≤ n + 1 ∧ ((stepF T o ss when_).chg.2 ≠ 0 → n' = n + 1) ∧ M'.length ≤ M.length + 1 ∧ n ≤ n' := by
  have e0 := h.len_eq
  rcases (show o.does = 1 ∨ o.does = 2 ∨ o.does = 3 ∨ o.does = 4 by omega) with e | e | e | e
  · have h2 := (h.create hn o.path o.data (if o.own = true then ss else 0) when_ o.serial (by split <;> omega) hw).2.2
    have h3 := create_len T o.path o.data (if o.own = true then ss else 0) when_ o.serial
    rw [h2.len_eq] at h3
    have e2 : (stepF T o ss when_).tree = (createF T o.path o.data (if o.own = true then ss else 0) when_ o.serial).2.2 := by rw [stepF, if_pos e]
    rw [← e2] at h2
    exact ⟨_, n + 1, h2, by omega, fun _ => rfl, by omega, by omega⟩
  · have h2 := (h.set o.path o.data o.version when_ hw).2.2
    have h3 := set_len (T := T) o.path o.data o.version when_
    rw [h2.len_eq] at h3
    have e2 : (stepF T o ss when_).tree = (setF T o.path o.data o.version when_).2.2 := by rw [stepF, if_neg (by omega), if_pos e]
    rw [← e2] at h2
    exact ⟨_, n + 1, h2, by omega, fun _ => rfl, by omega, by omega⟩
  · have h2 := (h.delete o.path o.version).2
    have h3 : (deleteF T o.path o.version).2.length ≤ T.length := by
      by_cases hh : (deleteF T o.path o.version).1 = 0
      · have := delete_len h hh; omega
      · rw [delete_bad hh]; omega
    rw [h2.len_eq] at h3
    have e2 : (stepF T o ss when_).tree = (deleteF T o.path o.version).2 := by rw [stepF, if_neg (by omega), if_neg (by omega), if_pos e]
    rw [← e2] at h2
    exact ⟨_, n + 1, h2, by omega, fun _ => rfl, by omega, by omega⟩
  · refine ⟨M, n, ?_, by omega, ?_, by omega, by omega⟩
    · rw [stepF, if_neg (by omega), if_neg (by omega), if_neg (by omega), if_pos e]; exact h
    · rw [stepF, if_neg (by omega), if_neg (by omega), if_neg (by omega), if_pos e]; intro h; exact absurd rfl h
theorem step_len (T : TreeT) (o : OpT) (ss when_ : Int) (ho : o.path.length ≤ 60) (h0 : (stepF T o ss when_).err = 0) : (stepF T o ss when_).chg.1.length ≤ 60 := by
  unfold stepF at h0 ⊢
  split
  · rename_i e
    rw [if_pos e] at h0
    simp only at h0 ⊢
    obtain ⟨a, nm, m1, m2, m3, m4, m5, m6, m7, m8, m9, m10⟩ := createF_ok h0
    rw [m10]
    exact check_len m7
  · repeat' split
    all_goals first | exact ho | simp
/-! ### Changes -/
theorem fires_inv {B : BookT} {m : Nat} (h : InvW B m) (cs : List Chg) (when_ : Int) : InvW (firesF B cs when_) (m + cs.length) := by
  induction cs generalizing B m with
  | nil => exact h
  | cons c r ih =>
    have := ih (fire_inv h c.1 c.2 when_)
    simp only [List.length_cons]
    rw [show m + (r.length + 1) = m + 1 + r.length from by omega]
    exact this
theorem fires_take (B : BookT) (cs : List Chg) (when_ : Int) {j : Nat} {c : Chg} (h : cs[j]? = some c) : firesF B (cs.take (j + 1)) when_ = fireF (firesF B (cs.take j) when_) c.1 c.2 when_ := by
  obtain ⟨hk, e⟩ := List.getElem?_eq_some_iff.1 h
  rw [List.take_succ_eq_append_getElem hk, e]
  simp [firesF]
theorem upd_inv {ss when_ : Int} (hss : 0 ≤ ss ∧ ss ≤ 281474976710655) (hw : 0 ≤ when_ ∧ when_ ≤ 1000) (ops : List OpT) (hok : ∀ o ∈ ops, opR o = true) :
    ∀ {k n : Nat} {T M : TreeT} {os : List OutT} {cs : List Chg}, Mod T M n → n + ops.length ≤ 1000 →
      ∃ M' n', Mod (updL ss when_ ops k T os cs).2.2.1 M' n' ∧ n' ≤ n + ops.length ∧ M'.length ≤ M.length + ops.length ∧ n + (updL ss when_ ops k T os cs).2.2.2.2.length ≤ n' + cs.length ∧ (updL ss when_ ops k T os cs).2.2.2.1.length ≤ os.length + ops.length := by
  induction ops with
  | nil => exact fun h _ => ⟨_, _, h, by simp, by simp, by simp [updL], by simp [updL]⟩
  | cons o r ih =>
    intro k n T M os cs h hn
    simp only [List.length_cons] at hn ⊢
    obtain ⟨o1, o2, -⟩ := opR_of (hok o (by simp))
    obtain ⟨M1, n1, hM1, h1, h2, h3, h5⟩ := step_mod h (by omega) o o1 o2 hss hw
    unfold updL
    split
    · exact ⟨M, n, h, by omega, by omega, by simp, by simp⟩
    · obtain ⟨M2, n2, g1, g2, g3, g4, g5⟩ := ih (fun o' ho' => hok o' (by simp [ho'])) (k := k + 1) (os := os ++ [(stepF T o ss when_).out]) (cs := if (stepF T o ss when_).chg.2 ≠ 0 then cs ++ [(stepF T o ss when_).chg] else cs) hM1 (by omega)
      refine ⟨M2, n2, g1, by omega, by omega, ?_, ?_⟩
      · by_cases hc : (stepF T o ss when_).chg.2 ≠ 0
        · have e1 := h2 hc
          rw [if_pos hc] at g4 ⊢
          simp only [List.length_append, List.length_cons, List.length_nil] at g4
          omega
        · rw [if_neg hc] at g4 ⊢
          omega
      · simp only [List.length_append, List.length_cons, List.length_nil] at g5
        omega
theorem end_inv {when_ : Int} (ps : List (List UInt8)) : ∀ {n : Nat} {T M : TreeT} {B : BookT}, Mod T M n → InvW B n →
    ∃ M' n', Mod (endL when_ ps T B).1 M' n' ∧ InvW (endL when_ ps T B).2 n' ∧ n' + M'.length ≤ n + M.length ∧ n ≤ n' := by
  induction ps with
  | nil => exact fun h h2 => ⟨_, _, h, h2, Nat.le_refl _, Nat.le_refl _⟩
  | cons p r ih =>
    intro n T M B h h2
    unfold endL
    by_cases h0 : (deleteF T p (-1)).1 = 0
    · rw [if_pos h0]
      have h3 := (h.delete p (-1)).2
      have h4 := delete_len h h0
      have h5 := h.len_eq
      have h6 := h3.len_eq
      obtain ⟨M', n', g1, g2, g3, g4⟩ := ih h3 (fire_inv h2 p 2 when_)
      exact ⟨M', n', g1, g2, by omega, by omega⟩
    · rw [if_neg h0, delete_bad h0]
      exact ih h h2

/-! ### What stands of a state behind n changes -/
structure InvS (s : StT) (M : TreeT) (n : Nat) : Prop where
  tree : Mod s.tree M n
  book : InvW s.book n
  ok : tabOk s.tab
  nd : (keys s.tab).Nodup
  len : s.tab.length ≤ 16
  kept : ∀ p ∈ s.tab, p.2.2.length ≤ 400
  at0 : 0 ≤ s.at_
  at1 : s.at_ ≤ 900
theorem inv0 : InvS st0 rootT 0 := ⟨Mod.start, InvW.nil, by simp [tabOk, st0], by simp [st0], by simp [st0], by simp [st0], by simp [st0], by simp [st0]⟩

theorem mem_mputT {κ α : Type} [DecidableEq κ] {M : List (κ × α)} {k : κ} {n : α} {p : κ × α} (h : p ∈ mput M k n) : p = (k, n) ∨ p ∈ M := by
  unfold mput at h
  split at h
  · obtain ⟨q, hq, rfl⟩ := List.mem_map.1 h
    split
    · exact .inl rfl
    · exact .inr hq
  · rcases List.mem_append.1 h with h | h
    · exact .inr h
    · exact .inl (by simpa using h)
theorem endF_inv {s : StT} {M : TreeT} {n : Nat} (h : InvS s M n) (id when_ : Int) : ∃ M' n', InvS (endF s id when_) M' n' ∧ n' + M'.length ≤ n + M.length ∧ n ≤ n' := by
  obtain ⟨M', n', g1, g2, g3, g4⟩ := end_inv (when_ := when_) (ownedF s.tree id).reverse h.tree h.book
  refine ⟨M', n', ⟨g1, drop_inv g2 id, ?_, ?_, ?_, ?_, h.at0, h.at1⟩, g3, g4⟩
  all_goals
    unfold endF closeF
    simp only
    split
  · exact fun k hk => h.ok k (mem_keys_mdel.1 hk).1
  · exact h.ok
  · exact nodup_mdel h.nd id
  · exact h.nd
  · exact Nat.le_trans (List.length_filter_le _ _) h.len
  · exact h.len
  · exact fun p hp => h.kept p (List.mem_filter.1 hp).1
  · exact h.kept
theorem cmdR_at {c : CmdT} (h : cmdR c = true) : 0 ≤ c.kind ∧ c.kind ≤ 5 ∧ (0 ≤ c.session ∧ c.session ≤ 281474976710655) ∧ (0 ≤ c.req ∧ c.req ≤ 281474976710655) ∧ c.ops.length ≤ 4 ∧ (∀ o ∈ c.ops, opR o = true) ∧ c.path.length ≤ 60 := by
  obtain ⟨h1, h2, h3, h4, h5, h6⟩ := cmdR_of h
  simp only [numR, decide_eq_true_eq] at h3
  exact ⟨h1, h2, ⟨h3.1, h3.2.2.2.1⟩, ⟨h3.2.1, h3.2.2.2.2.1⟩, h4, h5, h6⟩
theorem update_inv {s : StT} {M : TreeT} {n : Nat} (h : InvS s M n) {c : CmdT} (hc : cmdR c = true) {when_ : Int} (hw : 0 ≤ when_ ∧ when_ ≤ 1000) (hn : n ≤ 900) :
    (∃ M' n', InvS (updateF s c when_).2 M' n' ∧ n' + M'.length ≤ n + M.length + 2 * c.ops.length ∧ n ≤ n') ∧ (updateF s c when_).1.outs.length ≤ 4 := by
  obtain ⟨c1, c2, c3, c4, c5, c6, c7⟩ := cmdR_at hc
  obtain ⟨M', n', g1, g2, g3, g4, g5⟩ := upd_inv c3 hw c.ops c6 (k := 0) (os := []) (cs := []) h.tree (by omega)
  unfold updateF
  split
  · exact ⟨⟨M, n, h, by omega, by omega⟩, by simp⟩
  · simp only [List.length_nil, Nat.add_zero, Nat.zero_add] at g4 g5
    refine ⟨⟨M', n', ⟨g1, (fires_inv h.book _ when_).mono g4, h.ok, h.nd, h.len, h.kept, h.at0, h.at1⟩, by omega, by omega⟩, by simp only; omega⟩
theorem doF_inv {s : StT} {M : TreeT} {n : Nat} (h : InvS s M n) {c : CmdT} (hc : cmdR c = true) {when_ : Int} (hw : 0 ≤ when_ ∧ when_ ≤ 1000) (hn : n ≤ 900) :
    (∃ M' n', InvS (doF s c when_).2 M' n' ∧ n' + M'.length ≤ n + M.length + 2 * c.ops.length ∧ n ≤ n') ∧ (doF s c when_).1.outs.length ≤ 4 := by
  unfold doF
  split
  · exact update_inv h hc hw hn
  · split
    · exact ⟨⟨M, n, ⟨h.tree, add_inv h.book _, h.ok, h.nd, h.len, h.kept, h.at0, h.at1⟩, by omega, by omega⟩, by simp⟩
    · exact ⟨⟨M, n, h, by omega, by omega⟩, by simp⟩
theorem cmdF_inv {s : StT} {M : TreeT} {n : Nat} (h : InvS s M n) {c : CmdT} (hc : cmdR c = true) {when_ : Int} (hw : 0 ≤ when_ ∧ when_ ≤ 1000) (hn : n ≤ 900) :
    ∃ M' n', InvS (cmdF s c when_).2 M' n' ∧ n' + M'.length ≤ n + M.length + 2 * c.ops.length ∧ n ≤ n' := by
  have hN : InvS ⟨s.tree, s.tab, notedF s.book c.session c.noted, s.at_⟩ M n := ⟨h.tree, noted_inv h.book _ _, h.ok, h.nd, h.len, h.kept, h.at0, h.at1⟩
  have hsame : ∃ M' n', InvS s M' n' ∧ n' + M'.length ≤ n + M.length + 2 * c.ops.length ∧ n ≤ n' := ⟨M, n, h, by omega, by omega⟩
  unfold cmdF
  split
  · exact hsame
  · split
    · refine ⟨M, n, ⟨h.tree, h.book, ?_, ?_, ?_, ?_, h.at0, h.at1⟩, by omega, by omega⟩
      all_goals
        unfold openF
        simp only
        split
        · first | exact h.ok | exact h.nd | exact h.len | exact h.kept
        · rename_i hr
          split
          · first | exact h.ok | exact h.nd | exact h.len | exact h.kept
          · rename_i hin
            split
            · first | exact h.ok | exact h.nd | exact h.len | exact h.kept
            · rename_i h16
              first
              | (intro k hk; rw [keys_mput, if_neg hin] at hk; exact (List.mem_append.1 hk).elim (fun hk => h.ok k hk) (fun hk => by simp only [List.mem_singleton] at hk; omega))
              | exact nodup_mput h.nd _ _
              | (rw [length_mput, if_neg hin]; omega)
              | (intro p hp; exact (mem_mputT hp).elim (fun e => by subst e; simp) (fun hp => h.kept p hp))
    · split
      · exact hsame
      · rename_i hs0
        split
        · exact hsame
        · rename_i hs1
          split
          · obtain ⟨M', n', g1, g2, g3⟩ := endF_inv hN c.session when_
            exact ⟨M', n', g1, by omega, g3⟩
          · obtain ⟨⟨M', n', g1, g2, g3⟩, -⟩ := doF_inv hN hc hw hn
            refine ⟨M', n', ⟨g1.tree, g1.book, ?_, ?_, ?_, ?_, g1.at0, g1.at1⟩, g2, g3⟩
            all_goals
              generalize doF ⟨s.tree, s.tab, notedF s.book c.session c.noted, s.at_⟩ c when_ = D at *
              unfold keepF
              simp only
              split
              · first | exact g1.ok | exact g1.nd | exact g1.len | exact g1.kept
              · rename_i hk0
                split
                · first | exact g1.ok | exact g1.nd | exact g1.len | exact g1.kept
                · split
                  · first | exact g1.ok | exact g1.nd | exact g1.len | exact g1.kept
                  · rename_i h400
                    have hin : c.session ∈ keys D.2.tab := by
                      have : ¬ (seenF D.2.tab c.session c.req).2.2 ≠ 0 := hk0
                      unfold seenF at this
                      cases hm : mget D.2.tab c.session with
                      | none => rw [hm] at this; simp at this
                      | some v => exact mem_keys_mget.2 ⟨v, hm⟩
                    first
                    | (intro k hk; rw [keys_mput, if_pos hin] at hk; exact g1.ok k hk)
                    | exact nodup_mput g1.nd _ _
                    | (rw [length_mput, if_pos hin]; exact g1.len)
                    | (intro p hp; exact (mem_mputT hp).elim (fun e => by subst e; simp only; omega) (fun hp => g1.kept p hp))
theorem crowd_inv {when_ : Int} (k : Nat) : ∀ {s : StT} {M : TreeT} {n : Nat}, InvS s M n → ∃ M' n', InvS (crowdL when_ k s) M' n' ∧ n' + M'.length ≤ n + M.length ∧ n ≤ n' := by
  induction k with
  | zero => exact fun h => ⟨_, _, h, Nat.le_refl _, Nat.le_refl _⟩
  | succ k ih =>
    intro s M n h
    unfold crowdL
    split
    · exact ⟨_, _, h, Nat.le_refl _, Nat.le_refl _⟩
    · obtain ⟨M1, n1, g1, g2, g3⟩ := endF_inv h _ when_
      obtain ⟨M2, n2, k1, k2, k3⟩ := ih g1
      exact ⟨M2, n2, k1, by omega, by omega⟩

end Go.Proofs.YtanlobdidjednaaGreatDoor
