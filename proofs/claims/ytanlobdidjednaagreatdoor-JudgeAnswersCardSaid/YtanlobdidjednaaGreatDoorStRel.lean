/- Two states that differ in the order of their nodes, sessions and numbers alone answer alike, and stay so: plain. No condition. -/
import Derived.Test.YtanlobdidjednaaGreatDoorSta
import Derived.Test.YtanlobdidjednaaGreatDoorWEq
import Derived.Test.YtanlobdidjednaaGreatDoorTGood
import Derived.Test.YtanlobdidjednaaGreatDoorStCl
set_option linter.unusedVariables false
set_option linter.unusedSimpArgs false
namespace Go.Proofs.YtanlobdidjednaaGreatDoor
open Go.RowKit

/-- tables with the same sessions -/
structure TabE2 (m u : Tab) : Prop where
  get : ∀ k, mget u k = mget m k
  nd1 : (keys m).Nodup
  nd2 : (keys u).Nodup
theorem TabE2.mem {m u : Tab} (h : TabE2 m u) (k : Int) : k ∈ keys u ↔ k ∈ keys m := by rw [mem_keys_mget, mem_keys_mget, h.get]
theorem TabE2.perm {m u : Tab} (h : TabE2 m u) : (keys u).Perm (keys m) := (List.perm_ext_iff_of_nodup h.nd2 h.nd1).2 h.mem
theorem TabE2.len {m u : Tab} (h : TabE2 m u) : u.length = m.length := by have := h.perm.length_eq; simpa using this
theorem TabE2.put {m u : Tab} (h : TabE2 m u) (k : Int) (v : Ses) : TabE2 (mput m k v) (mput u k v) := ⟨fun j => by rw [mget_mput, mget_mput, h.get], nodup_mput h.nd1 _ _, nodup_mput h.nd2 _ _⟩
theorem TabE2.del {m u : Tab} (h : TabE2 m u) (k : Int) : TabE2 (mdel m k) (mdel u k) := ⟨fun j => by rw [mget_mdel, mget_mdel, h.get], nodup_mdel h.nd1 _, nodup_mdel h.nd2 _⟩
theorem TabE2.openF {m u : Tab} (h : TabE2 m u) (id : Int) : (Go.Proofs.YtanlobdidjednaaGreatDoor.openF u id).1 = (Go.Proofs.YtanlobdidjednaaGreatDoor.openF m id).1 ∧ TabE2 (Go.Proofs.YtanlobdidjednaaGreatDoor.openF m id).2 (Go.Proofs.YtanlobdidjednaaGreatDoor.openF u id).2 := by
  unfold Go.Proofs.YtanlobdidjednaaGreatDoor.openF
  rw [h.len]
  by_cases h1 : id < 1 ∨ 281474976710655 < id
  · rw [if_pos h1, if_pos h1]; exact ⟨rfl, h⟩
  · rw [if_neg h1, if_neg h1]
    by_cases h2 : id ∈ keys m
    · rw [if_pos h2, if_pos ((h.mem id).2 h2)]; exact ⟨rfl, h⟩
    · rw [if_neg h2, if_neg (fun e => h2 ((h.mem id).1 e))]
      by_cases h3 : 16 ≤ m.length
      · rw [if_pos h3, if_pos h3]; exact ⟨rfl, h⟩
      · rw [if_neg h3, if_neg h3]; exact ⟨rfl, h.put _ _⟩
theorem TabE2.closeF {m u : Tab} (h : TabE2 m u) (id : Int) : TabE2 (Go.Proofs.YtanlobdidjednaaGreatDoor.closeF m id).2 (Go.Proofs.YtanlobdidjednaaGreatDoor.closeF u id).2 := by
  unfold Go.Proofs.YtanlobdidjednaaGreatDoor.closeF
  by_cases h2 : id ∈ keys m
  · rw [if_pos h2, if_pos ((h.mem id).2 h2)]; exact h.del _
  · rw [if_neg h2, if_neg (fun e => h2 ((h.mem id).1 e))]; exact h
theorem TabE2.seenF {m u : Tab} (h : TabE2 m u) (id rq : Int) : Go.Proofs.YtanlobdidjednaaGreatDoor.seenF u id rq = Go.Proofs.YtanlobdidjednaaGreatDoor.seenF m id rq := by
  unfold Go.Proofs.YtanlobdidjednaaGreatDoor.seenF
  rw [h.get]
theorem TabE2.keepF {m u : Tab} (h : TabE2 m u) (id rq : Int) (a : List UInt8) : TabE2 (Go.Proofs.YtanlobdidjednaaGreatDoor.keepF m id rq a).2 (Go.Proofs.YtanlobdidjednaaGreatDoor.keepF u id rq a).2 := by
  unfold Go.Proofs.YtanlobdidjednaaGreatDoor.keepF
  rw [h.seenF]
  repeat' split
  all_goals first | exact h | exact h.put _ _
/-! ### trees -/
theorem step_rel {T U M : TreeT} {n : Nat} (h : Mod T M n) (g : Mod U M n) (hn : n < 1000) (o : OpT) (h1 : 1 ≤ o.does) (h4 : o.does ≤ 4) {ss when_ : Int} (hss : 0 ≤ ss ∧ ss ≤ 281474976710655) (hw : 0 ≤ when_ ∧ when_ ≤ 1000) :
    (stepF U o ss when_).out = (stepF T o ss when_).out ∧ (stepF U o ss when_).chg = (stepF T o ss when_).chg ∧ (stepF U o ss when_).err = (stepF T o ss when_).err ∧
    ∃ M' n', Mod (stepF T o ss when_).tree M' n' ∧ Mod (stepF U o ss when_).tree M' n' ∧ n' ≤ n + 1 := by
  rcases (show o.does = 1 ∨ o.does = 2 ∨ o.does = 3 ∨ o.does = 4 by omega) with e | e | e | e
  · obtain ⟨a1, a2, a3⟩ := h.create hn o.path o.data (if o.own = true then ss else 0) when_ o.serial (by split <;> omega) hw
    obtain ⟨b1, b2, b3⟩ := g.create hn o.path o.data (if o.own = true then ss else 0) when_ o.serial (by split <;> omega) hw
    simp only [stepF, if_pos e]
    exact ⟨by rw [a1, b1], by rw [a1, b1], by rw [a2, b2], _, n + 1, a3, b3, Nat.le_refl _⟩
  · obtain ⟨a1, a2, a3⟩ := h.set o.path o.data o.version when_ hw
    obtain ⟨b1, b2, b3⟩ := g.set o.path o.data o.version when_ hw
    simp only [stepF, if_neg (show ¬ o.does = 1 by omega), if_pos e]
    exact ⟨by rw [a1, b1], trivial, by rw [a2, b2], _, n + 1, a3, b3, Nat.le_refl _⟩
  · obtain ⟨a1, a3⟩ := h.delete o.path o.version
    obtain ⟨b1, b3⟩ := g.delete o.path o.version
    simp only [stepF, if_neg (show ¬ o.does = 1 by omega), if_neg (show ¬ o.does = 2 by omega), if_pos e]
    exact ⟨trivial, trivial, by rw [a1, b1], _, n + 1, a3, b3, Nat.le_refl _⟩
  · simp only [stepF, if_neg (show ¬ o.does = 1 by omega), if_neg (show ¬ o.does = 2 by omega), if_neg (show ¬ o.does = 3 by omega), if_pos e]
    exact ⟨trivial, trivial, by rw [h.atF, g.atF], M, n, h, g, by omega⟩
theorem upd_rel {ss when_ : Int} (hss : 0 ≤ ss ∧ ss ≤ 281474976710655) (hw : 0 ≤ when_ ∧ when_ ≤ 1000) (ops : List OpT) (hok : ∀ o ∈ ops, opR o = true) :
    ∀ {k n : Nat} {T U M : TreeT} {os : List OutT} {cs : List Chg}, Mod T M n → Mod U M n → n + ops.length ≤ 1000 →
      (updL ss when_ ops k U os cs).1 = (updL ss when_ ops k T os cs).1 ∧ (updL ss when_ ops k U os cs).2.1 = (updL ss when_ ops k T os cs).2.1 ∧ (updL ss when_ ops k U os cs).2.2.2 = (updL ss when_ ops k T os cs).2.2.2 ∧
      ∃ M' n', Mod (updL ss when_ ops k T os cs).2.2.1 M' n' ∧ Mod (updL ss when_ ops k U os cs).2.2.1 M' n' := by
  induction ops with
  | nil => exact fun h g _ => ⟨rfl, rfl, rfl, _, _, h, g⟩
  | cons o r ih =>
    intro k n T U M os cs h g hn
    simp only [List.length_cons] at hn
    obtain ⟨o1, o2, -⟩ := opR_of (hok o (by simp))
    obtain ⟨e1, e2, e3, M1, n1, m1, m2, m3⟩ := step_rel h g (by omega) o o1 o2 hss hw
    unfold updL
    rw [e1, e2, e3]
    split
    · exact ⟨rfl, rfl, rfl, M, n, h, g⟩
    · exact ih (fun o' ho' => hok o' (by simp [ho'])) m1 m2 (by omega)
/-! ### books -/
theorem fire_rel {B C : BookT} (h : EqB B C) (s : List UInt8) (what when_ : Int) : EqB (fireF B s what when_) (fireF C s what when_) := by
  obtain ⟨ws, es, nos⟩ := B
  obtain ⟨ws2, es2, nos2⟩ := C
  obtain ⟨h1, h2, h3⟩ := h
  simp only at h1 h2 h3
  subst h1 h2
  obtain ⟨e1, e2⟩ := notes_eq s what when_ ws2 (es := es2) h3
  exact ⟨rfl, e1, e2⟩
theorem fires_rel (cs : List Chg) (when_ : Int) : ∀ {B C : BookT}, EqB B C → EqB (firesF B cs when_) (firesF C cs when_) := by
  induction cs with
  | nil => exact fun h => h
  | cons c r ih => exact fun h => ih (fire_rel h c.1 c.2 when_)
theorem noted_rel {B C : BookT} (h : EqB B C) (ss no : Int) : EqB (notedF B ss no) (notedF C ss no) := by
  refine ⟨h.ws, ?_, h.nos⟩
  show C.es.filter _ = B.es.filter _
  rw [h.es]
theorem drop_rel {B C : BookT} (h : EqB B C) (ss : Int) : EqB (dropF B ss) (dropF C ss) := by
  refine ⟨?_, ?_, fun k => ?_⟩
  · show C.ws.filter _ = B.ws.filter _
    rw [h.ws]
  · show C.es.filter _ = B.es.filter _
    rw [h.es]
  · show mget (mdel C.nos ss) k = mget (mdel B.nos ss) k
    rw [mget_mdel, mget_mdel, h.nos]
theorem add_rel {B C : BookT} (h : EqB B C) (x : WatT) : (addF C x).1 = (addF B x).1 ∧ EqB (addF B x).2 (addF C x).2 := by
  obtain ⟨ws, es, nos⟩ := B
  obtain ⟨ws2, es2, nos2⟩ := C
  obtain ⟨h1, h2, h3⟩ := h
  simp only at h1 h2 h3
  subst h1 h2
  unfold addF
  simp only
  repeat' split
  all_goals exact ⟨rfl, rfl, rfl, h3⟩
/-! ### states -/
structure RelS (s u : StT) : Prop where
  tree : ∃ M n, Mod s.tree M n ∧ Mod u.tree M n
  tab : TabE2 s.tab u.tab
  book : EqB s.book u.book
  at_ : u.at_ = s.at_
theorem end_rel {when_ : Int} (ps : List (List UInt8)) : ∀ {n : Nat} {T U M : TreeT} {B C : BookT}, Mod T M n → Mod U M n → EqB B C →
    (∃ M' n', Mod (endL when_ ps T B).1 M' n' ∧ Mod (endL when_ ps U C).1 M' n') ∧ EqB (endL when_ ps T B).2 (endL when_ ps U C).2 := by
  induction ps with
  | nil => exact fun h g e => ⟨⟨_, _, h, g⟩, e⟩
  | cons p r ih =>
    intro n T U M B C h g e
    obtain ⟨a1, a3⟩ := h.delete p (-1)
    obtain ⟨b1, b3⟩ := g.delete p (-1)
    unfold endL
    rw [b1, ← a1]
    by_cases h0 : (deleteF T p (-1)).1 = 0
    · rw [if_pos h0, if_pos h0]
      exact ih a3 b3 (fire_rel e p 2 when_)
    · rw [if_neg h0, if_neg h0]
      exact ih a3 b3 e
theorem RelS.endF {s u : StT} (h : RelS s u) (id when_ : Int) : RelS (Go.Proofs.YtanlobdidjednaaGreatDoor.endF s id when_) (Go.Proofs.YtanlobdidjednaaGreatDoor.endF u id when_) := by
  obtain ⟨M, n, h1, h2⟩ := h.tree
  have ho : ownedF u.tree id = ownedF s.tree id := by rw [h1.owned, h2.owned]
  obtain ⟨e1, e2⟩ := end_rel (when_ := when_) (ownedF s.tree id).reverse h1 h2 h.book
  unfold Go.Proofs.YtanlobdidjednaaGreatDoor.endF
  rw [ho]
  exact ⟨e1, h.tab.closeF id, drop_rel e2 id, h.at_⟩
theorem RelS.crowdF {s u : StT} (h : RelS s u) : Go.Proofs.YtanlobdidjednaaGreatDoor.crowdF u = Go.Proofs.YtanlobdidjednaaGreatDoor.crowdF s := by
  have hs : sortI (keys u.tab) = sortI (keys s.tab) := sortZ_eq h.tab.perm
  unfold Go.Proofs.YtanlobdidjednaaGreatDoor.crowdF
  rw [hs]
  congr 1
  funext id
  unfold overF
  rw [h.book.es]
theorem RelS.crowdL (when_ : Int) (k : Nat) : ∀ {s u : StT}, RelS s u → RelS (Go.Proofs.YtanlobdidjednaaGreatDoor.crowdL when_ k s) (Go.Proofs.YtanlobdidjednaaGreatDoor.crowdL when_ k u) := by
  induction k with
  | zero => exact fun h => h
  | succ k ih =>
    intro s u h
    unfold Go.Proofs.YtanlobdidjednaaGreatDoor.crowdL
    rw [h.crowdF]
    cases Go.Proofs.YtanlobdidjednaaGreatDoor.crowdF s with
    | none => exact h
    | some id => exact ih (h.endF id when_)
theorem RelS.updateF {s u : StT} (h : RelS s u) {M0 : TreeT} {n0 : Nat} (hM : InvS s M0 n0) (hn : n0 ≤ 900) {M : TreeT} (h1 : Mod s.tree M n0) (h2 : Mod u.tree M n0) {c : CmdT} (hc : cmdR c = true) {when_ : Int} (hw : 0 ≤ when_ ∧ when_ ≤ 1000) :
    (Go.Proofs.YtanlobdidjednaaGreatDoor.updateF u c when_).1 = (Go.Proofs.YtanlobdidjednaaGreatDoor.updateF s c when_).1 ∧ RelS (Go.Proofs.YtanlobdidjednaaGreatDoor.updateF s c when_).2 (Go.Proofs.YtanlobdidjednaaGreatDoor.updateF u c when_).2 := by
  obtain ⟨c1, c2, c3, c4, c5, c6, c7⟩ := cmdR_at hc
  obtain ⟨e1, e2, e3, M', n', m1, m2⟩ := upd_rel c3 hw c.ops c6 (k := 0) (os := []) (cs := []) h1 h2 (by omega)
  unfold Go.Proofs.YtanlobdidjednaaGreatDoor.updateF
  simp only [e1, e2, e3]
  split
  · exact ⟨rfl, h⟩
  · exact ⟨rfl, ⟨M', n', m1, m2⟩, h.tab, fires_rel _ when_ h.book, h.at_⟩
theorem Mod.norm {T M : TreeT} {n : Nat} (h : Mod T M n) : normN T = M := by
  unfold normN
  rw [h.pathsF]
  simp only [keys, List.map_map]
  conv => rhs; rw [← List.map_id M]
  apply List.map_congr_left
  intro p hp
  simp [h.get, mget_some h.nodup (show (p.1, p.2) ∈ M from hp)]
theorem RelS.mod {s u : StT} (h : RelS s u) {M : TreeT} {n : Nat} (hM : Mod s.tree M n) : Mod u.tree M n := by
  obtain ⟨M', n', a, b⟩ := h.tree
  have e : M' = M := a.norm.symm.trans hM.norm
  subst e
  exact ⟨b.perm, hM.asc, hM.ok, hM.root, hM.len, hM.num⟩
theorem RelS.inv {s u : StT} (h : RelS s u) {M : TreeT} {n : Nat} (hM : InvS s M n) : InvS u M n := by
  refine ⟨h.mod hM.tree, h.book.invW hM.book, fun k hk => hM.ok k ((h.tab.mem k).1 hk), h.tab.nd2, by rw [h.tab.len]; exact hM.len, fun p hp => ?_, by rw [h.at_]; exact hM.at0, by rw [h.at_]; exact hM.at1⟩
  have := mget_some h.tab.nd2 (show (p.1, p.2) ∈ u.tab from hp)
  rw [h.tab.get] at this
  exact hM.kept _ (mget_mem this)
theorem RelS.doF {s u : StT} (h : RelS s u) {M : TreeT} {n : Nat} (hM : InvS s M n) (hn : n ≤ 900) {c : CmdT} (hc : cmdR c = true) {when_ : Int} (hw : 0 ≤ when_ ∧ when_ ≤ 1000) :
    (Go.Proofs.YtanlobdidjednaaGreatDoor.doF u c when_).1 = (Go.Proofs.YtanlobdidjednaaGreatDoor.doF s c when_).1 ∧ RelS (Go.Proofs.YtanlobdidjednaaGreatDoor.doF s c when_).2 (Go.Proofs.YtanlobdidjednaaGreatDoor.doF u c when_).2 := by
  unfold Go.Proofs.YtanlobdidjednaaGreatDoor.doF
  split
  · exact h.updateF hM hn hM.tree (h.mod hM.tree) hc hw
  · split
    · obtain ⟨e1, e2⟩ := add_rel h.book ⟨c.session, c.path, c.kids, c.once⟩
      rw [e1]
      exact ⟨rfl, h.tree, h.tab, e2, h.at_⟩
    · exact ⟨rfl, h⟩
theorem RelS.cmdF {s u : StT} (h : RelS s u) {M : TreeT} {n : Nat} (hM : InvS s M n) (hn : n ≤ 900) {c : CmdT} (hc : cmdR c = true) {when_ : Int} (hw : 0 ≤ when_ ∧ when_ ≤ 1000) :
    (Go.Proofs.YtanlobdidjednaaGreatDoor.cmdF u c when_).1 = (Go.Proofs.YtanlobdidjednaaGreatDoor.cmdF s c when_).1 ∧ RelS (Go.Proofs.YtanlobdidjednaaGreatDoor.cmdF s c when_).2 (Go.Proofs.YtanlobdidjednaaGreatDoor.cmdF u c when_).2 := by
  have hN : RelS ⟨s.tree, s.tab, notedF s.book c.session c.noted, s.at_⟩ ⟨u.tree, u.tab, notedF u.book c.session c.noted, u.at_⟩ := ⟨h.tree, h.tab, noted_rel h.book _ _, h.at_⟩
  have hI : InvS ⟨s.tree, s.tab, notedF s.book c.session c.noted, s.at_⟩ M n := ⟨hM.tree, noted_inv hM.book _ _, hM.ok, hM.nd, hM.len, hM.kept, hM.at0, hM.at1⟩
  unfold Go.Proofs.YtanlobdidjednaaGreatDoor.cmdF
  rw [h.tab.seenF]
  split
  · exact ⟨rfl, h⟩
  · split
    · obtain ⟨e1, e2⟩ := h.tab.openF c.session
      rw [e1]
      exact ⟨rfl, h.tree, e2, h.book, h.at_⟩
    · split
      · exact ⟨rfl, h⟩
      · split
        · exact ⟨rfl, h⟩
        · split
          · exact ⟨rfl, hN.endF _ _⟩
          · obtain ⟨e1, e2⟩ := hN.doF hI hn hc hw
            rw [e1]
            exact ⟨rfl, e2.tree, e2.tab.keepF _ _ _, e2.book, e2.at_⟩
/-- related states answer alike, and stay so -/
theorem RelS.applyC {s u : StT} (h : RelS s u) {M : TreeT} {n : Nat} (hM : InvS s M n) (hn : n ≤ 900) (ha : s.at_ ≤ 899) {c : CmdT} (hc : cmdR c = true) :
    (Go.Proofs.YtanlobdidjednaaGreatDoor.applyC u c).1 = (Go.Proofs.YtanlobdidjednaaGreatDoor.applyC s c).1 ∧ RelS (Go.Proofs.YtanlobdidjednaaGreatDoor.applyC s c).2 (Go.Proofs.YtanlobdidjednaaGreatDoor.applyC u c).2 := by
  have h0 := hM.at0
  have hS : RelS ⟨s.tree, s.tab, s.book, s.at_ + 1⟩ ⟨u.tree, u.tab, u.book, s.at_ + 1⟩ := ⟨h.tree, h.tab, h.book, rfl⟩
  have hI : InvS ⟨s.tree, s.tab, s.book, s.at_ + 1⟩ M n := ⟨hM.tree, hM.book, hM.ok, hM.nd, hM.len, hM.kept, by show 0 ≤ s.at_ + 1; omega, by show s.at_ + 1 ≤ 900; omega⟩
  obtain ⟨e1, e2⟩ := hS.cmdF hI hn hc (when_ := s.at_ + 1) ⟨by omega, by omega⟩
  unfold Go.Proofs.YtanlobdidjednaaGreatDoor.applyC
  rw [h.at_, e2.tab.len]
  exact ⟨e1, e2.crowdL _ _⟩
theorem RelS.layS {s u : StT} (h : RelS s u) {M : TreeT} {n : Nat} (hM : InvS s M n) (h1 : (keys s.book.nos).Nodup) (h2 : (keys u.book.nos).Nodup) : Go.Proofs.YtanlobdidjednaaGreatDoor.layS u = Go.Proofs.YtanlobdidjednaaGreatDoor.layS s := by
  have hs : sortI (keys u.tab) = sortI (keys s.tab) := sortZ_eq h.tab.perm
  have e1 : layN u.tree = layN s.tree := by rw [(h.mod hM.tree).layN_eq, hM.tree.layN_eq]
  have e2 : normT u.tab = normT s.tab := by
    unfold normT
    rw [hs]
    apply List.map_congr_left
    intro k _
    rw [h.tab.get]
  have e3 : layB u.tab = layB s.tab := by
    unfold layB
    rw [e2, h.tab.len]
  unfold Go.Proofs.YtanlobdidjednaaGreatDoor.layS
  rw [h.at_, e1, e3, h.book.layW h1 h2]
theorem RelS.refl {s : StT} {M : TreeT} {n : Nat} (hM : InvS s M n) : RelS s s := ⟨⟨M, n, hM.tree, hM.tree⟩, ⟨fun _ => rfl, hM.nd, hM.nd⟩, EqB.refl _, rfl⟩
theorem RelS.symm {s u : StT} (h : RelS s u) : RelS u s := by
  obtain ⟨M, n, a, b⟩ := h.tree
  exact ⟨⟨M, n, b, a⟩, ⟨fun k => (h.tab.get k).symm, h.tab.nd2, h.tab.nd1⟩, ⟨h.book.ws.symm, h.book.es.symm, fun k => (h.book.nos k).symm⟩, h.at_.symm⟩
theorem RelS.trans {s u v : StT} (h : RelS s u) (g : RelS u v) : RelS s v := by
  obtain ⟨M, n, a, b⟩ := h.tree
  exact ⟨⟨M, n, a, g.mod b⟩, ⟨fun k => (g.tab.get k).trans (h.tab.get k), h.tab.nd1, g.tab.nd2⟩, ⟨g.book.ws.trans h.book.ws, g.book.es.trans h.book.es, fun k => (g.book.nos k).trans (h.book.nos k)⟩, g.at_.trans h.at_⟩
end Go.Proofs.YtanlobdidjednaaGreatDoor
