/- Ranging over a map in pieces of memory, over any program: the start, a step, the end. No condition. -/
import Derived.Test.YtecpfnobnpddaaaDoorSep
import Derived.Maps.RangeWalk
set_option linter.unusedVariables false
set_option linter.unusedSimpArgs false
set_option linter.unusedSectionVars false
namespace Go.Proofs.YtecpfnobnpddaaaDoor
open Go.RowKit Go.MapKept

section
variable {κ α : Type} [DecidableEq κ]
/-- what an iterator that is under way says of its map: m: all entries; lf: those still to come -/
structure IterOk (kv : κ → Value) (ev : α → Value) (m lf : List (κ × α)) (es : Array MapEntry) (clock since : Nat) (seen : Array Nat) (c0 : Nat) : Prop where
  st : Stamped es clock
  ents : es.toList.map (fun e => (e.key, e.val)) = m.map fun p => (kv p.1, ev p.2)
  old : ∀ x ∈ es.toList, x.born < since
  c0_le : since ≤ c0
  clock_le : since ≤ clock
  left : (leftOf es seen).toList.map (fun e => (e.key, e.val)) = lf.map fun p => (kv p.1, ev p.2)
  sub : lf.Sublist m
/-- a map and an iterator over it -/
def rangeA (kv : κ → Value) (ev : α → Value) (b r : Nat) (m lf : List (κ × α)) : Asn :=
  exA fun x : Array MapEntry × Nat × Nat × Array Nat × Nat => star (pureA (IterOk kv ev m lf x.1 x.2.1 x.2.2.1 x.2.2.2.1 x.2.2.2.2))
    (star (own b fun o => o = .map x.1 x.2.1) (own r fun o => o = .mapIter (some b) x.2.2.1 x.2.2.2.1 x.2.2.2.2))

variable {kv : κ → Value} {ev : α → Value} {g w w' : World} {L : List Asn} {b r : Nat} {m lf : List (κ × α)} {P : Program} {kt : TypeId} {d : TypeDesc}

theorem Sat.ownOpen {b : Nat} {Φ : Obj → Prop} (S : Sat g w (own b Φ :: L)) : ∃ o, Φ o ∧ Sat g w (own b (fun o' => o' = o) :: L) := by
  obtain ⟨h, ⟨h1, h2, c, e, ⟨o, ho, a⟩, b'⟩, m⟩ := S.mem
  exact ⟨o, ho, S.os, S.tape, S.output, h, ⟨h1, h2, c, e, ⟨o, rfl, a⟩, b'⟩, m⟩

theorem Sat.rangeOpen (S : Sat g w (rangeA kv ev b r m lf :: L)) : ∃ es clock since seen c0, IterOk kv ev m lf es clock since seen c0 ∧
    Sat g w (own b (fun o => o = .map es clock) :: own r (fun o => o = .mapIter (some b) since seen c0) :: L) := by
  obtain ⟨⟨es, clock, since, seen, c0⟩, S⟩ := S.ex
  obtain ⟨h, S⟩ := S.split.pure
  exact ⟨es, clock, since, seen, c0, h, S.split⟩
theorem Sat.rangeShut {es : Array MapEntry} {clock since : Nat} {seen : Array Nat} {c0 : Nat} (h : IterOk kv ev m lf es clock since seen c0)
    (S : Sat g w (own b (fun o => o = .map es clock) :: own r (fun o => o = .mapIter (some b) since seen c0) :: L)) : Sat g w (rangeA kv ev b r m lf :: L) :=
  Sat.ex_ (es, clock, since, seen, c0) ((S.join.nil h).join)
/-- the map, while the loop is under way -/
theorem Sat.rangeMap (S : Sat g w (rangeA kv ev b r m lf :: L)) : MapOf kv ev w b m := by
  obtain ⟨es, clock, since, seen, c0, h, S⟩ := S.rangeOpen
  obtain ⟨o, ho, rfl⟩ := S.own_get
  exact ⟨es, clock, ho, h.st, h.ents⟩
theorem Sat.rangeSub (S : Sat g w (rangeA kv ev b r m lf :: L)) : lf.Sublist m := by
  obtain ⟨es, clock, since, seen, c0, h, S⟩ := S.rangeOpen
  exact h.sub
theorem Sat.rangeNodup (S : Sat g w (rangeA kv ev b r m lf :: L)) : (keys m).Nodup := S.rangeMap.nodup
/-- behind the loop -/
theorem Sat.rangeEnd (S : Sat g w (rangeA kv ev b r m lf :: L)) : Sat g w (mapA kv ev b m :: L) := by
  obtain ⟨es, clock, since, seen, c0, h, S⟩ := S.rangeOpen
  exact (S.p1.drop).head fun _ a => by
    obtain ⟨o, rfl, e⟩ := a
    exact ⟨_, ⟨es, clock, rfl, h.st, h.ents⟩, e⟩
/-- how many are to come, read off the world: for the loop's measure -/
theorem Sat.rangeLeft (S : Sat g w (rangeA kv ev b r m lf :: L)) : w.rangeLeft b r = lf.length := by
  obtain ⟨es, clock, since, seen, c0, h, S⟩ := S.rangeOpen
  obtain ⟨o, ho, rfl⟩ := S.own_get
  obtain ⟨o, hr, rfl⟩ := S.p1.own_get
  simp only [World.rangeLeft, ho, hr]
  have := congrArg List.length h.left
  simpa using this

/-- 'range m' -/
theorem Sat.range {t et : TypeId} (S : Sat g w (mapA kv ev b m :: L)) (ht : P.underlying t = some (.map kt et)) :
    ∃ w', (Instr.range t (.map (some b))).run P w = .ok (.pointer (some ⟨w.heap.size, 0, none⟩)) w' ∧ Sat g w' (rangeA kv ev b w.heap.size m m :: L) := by
  obtain ⟨o, ⟨es, clock, rfl, hs, he⟩, S1⟩ := Sat.ownOpen S
  obtain ⟨o, hb, rfl⟩ := S1.own_get
  refine ⟨_, run_range_map w t kt et b es clock ht hb, ?_⟩
  have S2 := (S1.alloc (.mapIter (some b) clock #[] clock) (b := w.heap.size) (Φ := fun o => o = .mapIter (some b) clock #[] clock) rfl rfl).p1
  refine Sat.rangeShut ⟨hs, he, hs.1, Nat.le_refl _, Nat.le_refl _, ?_, List.Sublist.refl _⟩ S2
  rw [← he]
  have e : (leftOf es #[]).toList = es.toList := by
    unfold leftOf
    rw [Array.toList_filter, List.filter_eq_self]
    intro x _
    simp
  rw [e]

open Classical in
theorem filt_pairs (inj : ∀ a b, kv a = kv b → a = b) (k : κ) : ∀ (l : List MapEntry) (lf : List (κ × α)), l.map (fun e => (e.key, e.val)) = lf.map (fun p => (kv p.1, ev p.2)) →
    (l.filter (fun x => !decide (x.key = kv k))).map (fun e => (e.key, e.val)) = (mdel lf k).map fun p => (kv p.1, ev p.2)
  | [], lf, h => by
    have : lf = [] := by simpa using h.symm
    subst this
    rfl
  | x :: l, [], h => by simp at h
  | x :: l, p :: lf, h => by
    simp only [List.map_cons, List.cons.injEq, Prod.mk.injEq] at h
    obtain ⟨⟨h1, h2⟩, h3⟩ := h
    have ih := filt_pairs inj k l lf h3
    unfold mdel at ih ⊢
    by_cases hp : p.1 = k
    · have e : x.key = kv k := by rw [h1, hp]
      rw [List.filter_cons_of_neg (by simp [e]), List.filter_cons_of_neg (by simp [hp])]
      exact ih
    · have e : x.key ≠ kv k := fun e => hp (inj _ _ (h1.symm.trans e))
      rw [List.filter_cons_of_pos (by simp [e]), List.filter_cons_of_pos (by simp [hp]), List.map_cons, List.map_cons, ih, h1, h2]

open Classical in
theorem IterOk.filter {es : Array MapEntry} {clock since : Nat} {seen : Array Nat} {c0 : Nat} (h : IterOk kv ev m lf es clock since seen c0) (K : KeyT P kt d kv) {e : MapEntry} (he : e ∈ es.toList) {k : κ} (hk : e.key = kv k) :
    (leftOf es (seen.push e.born)).toList.map (fun e => (e.key, e.val)) = (mdel lf k).map fun p => (kv p.1, ev p.2) := by
  have hst := (stamped_iff es clock).1 h.st
  have h1 : (leftOf es (seen.push e.born)).toList = (leftOf es seen).toList.filter (fun x => !(x.born == e.born)) := by
    unfold leftOf
    rw [Array.toList_filter, Array.toList_filter, List.filter_filter]
    apply List.filter_congr
    intro x _
    rw [contains_push]
    cases seen.contains x.born <;> cases (x.born == e.born) <;> rfl
  have h2 : (leftOf es seen).toList.filter (fun x => !(x.born == e.born)) = (leftOf es seen).toList.filter (fun x => !decide (x.key = e.key)) := by
    apply List.filter_congr
    intro x hx
    have hxm := (mem_left hx).1
    congr 1
    rw [Bool.eq_iff_iff, beq_iff_eq, decide_eq_true_eq]
    constructor
    · intro hb; rw [born_inj hst.2.1 hxm he hb]
    · intro hb; rw [entry_eq_of_key hst.2.2 hxm he hb]
  rw [h1, h2, hk]
  exact filt_pairs K.inj k _ _ h.left

theorem IterOk.step {es : Array MapEntry} {clock since : Nat} {seen : Array Nat} {c0 : Nat} (h : IterOk kv ev m lf es clock since seen c0) (K : KeyT P kt d kv) {e : MapEntry} (he : e ∈ es.toList) {k : κ} (hk : e.key = kv k) :
    IterOk kv ev m (mdel lf k) es clock since (seen.push e.born) clock :=
  ⟨h.st, h.ents, h.old, h.clock_le, h.clock_le, h.filter K he hk, (List.filter_sublist).trans h.sub⟩

/-- a step: nothing is left, or an entry has come -/
theorem Sat.next (S : Sat g w (rangeA kv ev b r m lf :: L)) (K : KeyT P kt d kv) (ty : TypeId) :
    (lf = [] ∧ (Instr.next (.pointer (some ⟨r, 0, none⟩)) false ty).run P w = .ok (.tuple #[.bool false]) w) ∨
    ∃ k v w', (k, v) ∈ lf ∧ (k, v) ∈ m ∧ (Instr.next (.pointer (some ⟨r, 0, none⟩)) false ty).run P w = .ok (.tuple #[.bool true, kv k, ev v]) w' ∧
      Sat g w' (rangeA kv ev b r m (mdel lf k) :: L) ∧ (mdel lf k).length < lf.length ∧ (Instr.entry (.pointer (some ⟨r, 0, none⟩))).run P w' = .ok (.tuple #[kv k, ev v]) w' := by
  have hn := S.rangeNodup
  obtain ⟨es, clock, since, seen, c0, h, S1⟩ := S.rangeOpen
  obtain ⟨o, hb, rfl⟩ := S1.own_get
  obtain ⟨o, hr, rfl⟩ := S1.p1.own_get
  have hne := S1.own_ne
  have hst := (stamped_iff es clock).1 h.st
  rcases run_next_at (P := P) w ty r b since c0 seen es clock hr hb h.old h.c0_le with ⟨h0, hrun⟩ | ⟨e, he, w1, hal, hrun⟩
  · left
    refine ⟨?_, hrun⟩
    have := congrArg List.length h.left
    simpa [h0] using this.symm
  · right
    obtain ⟨hem, hes⟩ := mem_left he
    have h1 : (e.key, e.val) ∈ lf.map fun p => (kv p.1, ev p.2) := by rw [← h.left]; exact List.mem_map.2 ⟨e, he, rfl⟩
    obtain ⟨⟨k, v⟩, hp, hpe⟩ := List.mem_map.1 h1
    simp only [Prod.mk.injEq] at hpe
    obtain ⟨hk, hv⟩ := hpe
    have hok := h.step K hem hk.symm
    have S2 : Sat g w1 (own r (fun o => o = .mapIter (some b) since seen c0) :: own b (fun o => o = .map es clock) :: L) := by
      rcases hal with rfl | rfl
      · exact S1.p1
      · exact S1.p1.drew
    have hr1 : w1.heap[r]? = some (.mapIter (some b) since seen c0) := by rcases hal with rfl | rfl <;> exact hr
    have hb1 : w1.heap[b]? = some (.map es clock) := by rcases hal with rfl | rfl <;> exact hb
    have hset := heap_set (o' := .mapIter (some b) since (seen.push e.born) clock) hr1
    have hkp : Keeps (fun i => i = r) w1 (ChangeMaps.setBlock w1 r (.mapIter (some b) since (seen.push e.born) clock)) :=
      ⟨rfl, rfl, rfl, by simp [ChangeMaps.setBlock], fun i _ hi => hset.2 i hi⟩
    have S3 := (S2.own_put (Φ' := fun o => o = .mapIter (some b) since (seen.push e.born) clock) hkp hset.1 rfl).p1
    have hb' := (hset.2 b hne).trans hb1
    refine ⟨k, v, _, hp, h.sub.subset hp, by rw [hk, hv]; exact hrun, Sat.rangeShut hok S3, ?_, ?_⟩
    · have hl := congrArg List.length h.left
      have hl2 := congrArg List.length (h.filter K hem hk.symm)
      have hl3 := left_shrinks es seen e he
      simp only [List.length_map, Array.length_toList] at hl hl2
      omega
    · rw [hk, hv]
      exact run_entry_at _ r b since seen es clock e hset.1 hb' hem hst.2.1

/-! ### at the operations -/
theorem wpList_srange {ops : Array Oper} {rest : List Oper} {o : Oper} {a : Act} {Q : Exit → Act → World → Prop} (hg : o.guard = none) (x : Operand) (t : TypeId) (hop : o.op = Op.range t x) {et : TypeId} (ht : P.underlying t = some (.map kt et))
    (S : Sat g w (mapA kv ev b m :: L)) (hx : a.eval x = .map (some b))
    (hK : ∀ w', Sat g w' (rangeA kv ev b w.heap.size m m :: L) → wpList P ops Q rest (a.put o.dst (.pointer (some ⟨w.heap.size, 0, none⟩))) w') : wpList P ops Q (o :: rest) a w := by
  refine wpList_plain hg fun K' hK' => ?_
  obtain ⟨w', hrun, r1⟩ := S.range (P := P) ht
  unfold Oper.wp
  simp [execOp, hop, hx, hrun, Result.andThen]
  exact hK' _ _ (hK w' r1)
theorem wpList_snext {ops : Array Oper} {rest : List Oper} {o : Oper} {a : Act} {Q : Exit → Act → World → Prop} (hg : o.guard = none) (it : Operand) (hop : o.op = Op.next it false) (K : KeyT P kt d kv)
    (S : Sat g w (rangeA kv ev b r m lf :: L)) (hit : a.eval it = .pointer (some ⟨r, 0, none⟩))
    (hDone : lf = [] → wpList P ops Q rest (a.put o.dst (.tuple #[.bool false])) w)
    (hMore : ∀ k v w', (k, v) ∈ lf → (k, v) ∈ m → Sat g w' (rangeA kv ev b r m (mdel lf k) :: L) → (mdel lf k).length < lf.length →
      (Instr.entry (.pointer (some ⟨r, 0, none⟩))).run P w' = .ok (.tuple #[kv k, ev v]) w' → wpList P ops Q rest (a.put o.dst (.tuple #[.bool true, kv k, ev v])) w') : wpList P ops Q (o :: rest) a w := by
  refine wpList_plain hg fun K' hK' => ?_
  unfold Oper.wp
  rcases S.next K o.type with ⟨h0, hrun⟩ | ⟨k, v, w', hm1, hm2, hrun, S', hlt, hen⟩
  · simp [execOp, hop, hit, hrun, Result.andThen]
    exact hK' _ _ (hDone h0)
  · simp [execOp, hop, hit, hrun, Result.andThen]
    exact hK' _ _ (hMore k v w' hm1 hm2 S' hlt hen)
end

end Go.Proofs.YtecpfnobnpddaaaDoor
