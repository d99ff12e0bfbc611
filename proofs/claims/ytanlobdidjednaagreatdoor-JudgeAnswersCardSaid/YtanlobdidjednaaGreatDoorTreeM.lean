/- Ranging over a map in pieces of memory, over any program: the start, a step, the end. No condition. Strings sorted, in pieces of memory. No condition. Contracts of the package tree: what a tree is, New, Len, Get. No condition. Contracts of the package tree: New, Create. No condition. Contracts of the package tree: at, Check, Set. No condition. Paths that end in a part: what up and check answer; names with a number. Plain. The law TreeQuotas: plain. The law TreeSerials: plain; what Delete does. Contracts of the package tree: Kids. No condition. Contracts of the package tree: Paths, Owned. No condition. The document's example for the package tree; Create as the laws use it. No condition. Contracts of the package tree: Delete. No condition. Contracts of the package tree: Owned. No condition. The law TreeSerials, walked. No condition. The law TreeOwners: plain. -/
import Derived.Test.YtanlobdidjednaaGreatDoorLow
import Derived.Maps.RangeWalk
import Derived.Test.YtanlobdidjednaaGreatDoorPithM
import Derived.Shelf.SortM.Plain
import Derived.Shelf.SortM.SortNone
import Derived.Ground.SlgmProg
import Derived.Test.YtanlobdidjednaaGreatDoorLaysT
import Derived.Test.YtanlobdidjednaaGreatDoorPathM
import Derived.StillTailTactics
import Derived.Shelf.SlIter.Nil
import Derived.Ground.GgzProg
namespace Go.Proofs.YtanlobdidjednaaGreatDoor
section
set_option linter.unusedVariables false
set_option linter.unusedSimpArgs false
set_option linter.unusedSectionVars false
open Go.RowKit Go.MapKept

section
variable {κ α : Type} [DecidableEq κ]
/-- what an iterator that is under way says of its map: m: all entries; lf: those still to come -/
structure IterOk (kv : κ → Value) (ev : α → Value) (m lf : List (κ × α)) (es : Array MapEntry) (clock since : Nat) (seen : Array Nat) (c0 : Nat) : Prop where
  st : Stamped es clock
  ents : es.toList.map (fun e => (e.key, e.val)) = m.map fun p => (kv p.1, ev p.2)
  old : ∀ x ∈ es.toList, x.born < since
  c0_le : since ≤ c0
  clock_le : since ≤ clock
  left : (leftOf es seen).toList.map (fun e => (e.key, e.val)) = lf.map fun p => (kv p.1, ev p.2)
  sub : lf.Sublist m
/-- a map and an iterator over it -/
def rangeA (kv : κ → Value) (ev : α → Value) (b r : Nat) (m lf : List (κ × α)) : Asn :=
  exA fun x : Array MapEntry × Nat × Nat × Array Nat × Nat => star (pureA (IterOk kv ev m lf x.1 x.2.1 x.2.2.1 x.2.2.2.1 x.2.2.2.2))
    (star (own b fun o => o = .map x.1 x.2.1) (own r fun o => o = .mapIter (some b) x.2.2.1 x.2.2.2.1 x.2.2.2.2))

variable {kv : κ → Value} {ev : α → Value} {g w w' : World} {L : List Asn} {b r : Nat} {m lf : List (κ × α)} {P : Program} {kt : TypeId} {d : TypeDesc}

theorem Sat.ownOpen {b : Nat} {Φ : Obj → Prop} (S : Sat g w (own b Φ :: L)) : ∃ o, Φ o ∧ Sat g w (own b (fun o' => o' = o) :: L) := by
  obtain ⟨h, ⟨h1, h2, c, e, ⟨o, ho, a⟩, b'⟩, m⟩ := S.mem
  exact ⟨o, ho, S.os, S.tape, S.output, h, ⟨h1, h2, c, e, ⟨o, rfl, a⟩, b'⟩, m⟩

theorem Sat.rangeOpen (S : Sat g w (rangeA kv ev b r m lf :: L)) : ∃ es clock since seen c0, IterOk kv ev m lf es clock since seen c0 ∧
    Sat g w (own b (fun o => o = .map es clock) :: own r (fun o => o = .mapIter (some b) since seen c0) :: L) := by
  obtain ⟨⟨es, clock, since, seen, c0⟩, S⟩ := S.ex
  obtain ⟨h, S⟩ := S.split.pure
  exact ⟨es, clock, since, seen, c0, h, S.split⟩
theorem Sat.rangeShut {es : Array MapEntry} {clock since : Nat} {seen : Array Nat} {c0 : Nat} (h : IterOk kv ev m lf es clock since seen c0)
    (S : Sat g w (own b (fun o => o = .map es clock) :: own r (fun o => o = .mapIter (some b) since seen c0) :: L)) : Sat g w (rangeA kv ev b r m lf :: L) :=
  Sat.ex_ (es, clock, since, seen, c0) ((S.join.nil h).join)
/-- the map, while the loop is under way -/
theorem Sat.rangeMap (S : Sat g w (rangeA kv ev b r m lf :: L)) : MapOf kv ev w b m := by
  obtain ⟨es, clock, since, seen, c0, h, S⟩ := S.rangeOpen
  obtain ⟨o, ho, rfl⟩ := S.own_get
  exact ⟨es, clock, ho, h.st, h.ents⟩
theorem Sat.rangeSub (S : Sat g w (rangeA kv ev b r m lf :: L)) : lf.Sublist m := by
  obtain ⟨es, clock, since, seen, c0, h, S⟩ := S.rangeOpen
  exact h.sub
theorem Sat.rangeNodup (S : Sat g w (rangeA kv ev b r m lf :: L)) : (keys m).Nodup := S.rangeMap.nodup
/-- behind the loop -/
theorem Sat.rangeEnd (S : Sat g w (rangeA kv ev b r m lf :: L)) : Sat g w (mapA kv ev b m :: L) := by
  obtain ⟨es, clock, since, seen, c0, h, S⟩ := S.rangeOpen
  exact (S.p1.drop).head fun _ a => by
    obtain ⟨o, rfl, e⟩ := a
    exact ⟨_, ⟨es, clock, rfl, h.st, h.ents⟩, e⟩
/-- how many are to come, read off the world: for the loop's measure -/
theorem Sat.rangeLeft (S : Sat g w (rangeA kv ev b r m lf :: L)) : w.rangeLeft b r = lf.length := by
  obtain ⟨es, clock, since, seen, c0, h, S⟩ := S.rangeOpen
  obtain ⟨o, ho, rfl⟩ := S.own_get
  obtain ⟨o, hr, rfl⟩ := S.p1.own_get
  simp only [World.rangeLeft, ho, hr]
  have := congrArg List.length h.left
  simpa using this

/-- 'range m' -/
theorem Sat.range {t et : TypeId} (S : Sat g w (mapA kv ev b m :: L)) (ht : P.underlying t = some (.map kt et)) :
    ∃ w', (Instr.range t (.map (some b))).run P w = .ok (.pointer (some ⟨w.heap.size, 0, none⟩)) w' ∧ Sat g w' (rangeA kv ev b w.heap.size m m :: L) := by
  obtain ⟨o, ⟨es, clock, rfl, hs, he⟩, S1⟩ := Sat.ownOpen S
  obtain ⟨o, hb, rfl⟩ := S1.own_get
  refine ⟨_, run_range_map w t kt et b es clock ht hb, ?_⟩
  have S2 := (S1.alloc (.mapIter (some b) clock #[] clock) (b := w.heap.size) (Φ := fun o => o = .mapIter (some b) clock #[] clock) rfl rfl).p1
  refine Sat.rangeShut ⟨hs, he, hs.1, Nat.le_refl _, Nat.le_refl _, ?_, List.Sublist.refl _⟩ S2
  rw [← he]
  have e : (leftOf es #[]).toList = es.toList := by
    unfold leftOf
    rw [Array.toList_filter, List.filter_eq_self]
    intro x _
    simp
  rw [e]

open Classical in
theorem filt_pairs (inj : ∀ a b, kv a = kv b → a = b) (k : κ) : ∀ (l : List MapEntry) (lf : List (κ × α)), l.map (fun e => (e.key, e.val)) = lf.map (fun p => (kv p.1, ev p.2)) →
    (l.filter (fun x => !decide (x.key = kv k))).map (fun e => (e.key, e.val)) = (mdel lf k).map fun p => (kv p.1, ev p.2)
  | [], lf, h => by
    have : lf = [] := by simpa using h.symm
    subst this
    rfl
  | x :: l, [], h => by simp at h
  | x :: l, p :: lf, h => by
    simp only [List.map_cons, List.cons.injEq, Prod.mk.injEq] at h
    obtain ⟨⟨h1, h2⟩, h3⟩ := h
    have ih := filt_pairs inj k l lf h3
    unfold mdel at ih ⊢
    by_cases hp : p.1 = k
    · have e : x.key = kv k := by rw [h1, hp]
      rw [List.filter_cons_of_neg (by simp [e]), List.filter_cons_of_neg (by simp [hp])]
      exact ih
    · have e : x.key ≠ kv k := fun e => hp (inj _ _ (h1.symm.trans e))
      rw [List.filter_cons_of_pos (by simp [e]), List.filter_cons_of_pos (by simp [hp]), List.map_cons, List.map_cons, ih, h1, h2]

open Classical in
theorem IterOk.filter {es : Array MapEntry} {clock since : Nat} {seen : Array Nat} {c0 : Nat} (h : IterOk kv ev m lf es clock since seen c0) (K : KeyT P kt d kv) {e : MapEntry} (he : e ∈ es.toList) {k : κ} (hk : e.key = kv k) :
    (leftOf es (seen.push e.born)).toList.map (fun e => (e.key, e.val)) = (mdel lf k).map fun p => (kv p.1, ev p.2) := by
  have hst := (stamped_iff es clock).1 h.st
  have h1 : (leftOf es (seen.push e.born)).toList = (leftOf es seen).toList.filter (fun x => !(x.born == e.born)) := by
    unfold leftOf
    rw [Array.toList_filter, Array.toList_filter, List.filter_filter]
    apply List.filter_congr
    intro x _
    rw [contains_push]
    cases seen.contains x.born <;> cases (x.born == e.born) <;> rfl
  have h2 : (leftOf es seen).toList.filter (fun x => !(x.born == e.born)) = (leftOf es seen).toList.filter (fun x => !decide (x.key = e.key)) := by
    apply List.filter_congr
    intro x hx
    have hxm := (mem_left hx).1
    congr 1
    rw [Bool.eq_iff_iff, beq_iff_eq, decide_eq_true_eq]
    constructor
    · intro hb; rw [born_inj hst.2.1 hxm he hb]
    · intro hb; rw [entry_eq_of_key hst.2.2 hxm he hb]
  rw [h1, h2, hk]
  exact filt_pairs K.inj k _ _ h.left

theorem IterOk.step {es : Array MapEntry} {clock since : Nat} {seen : Array Nat} {c0 : Nat} (h : IterOk kv ev m lf es clock since seen c0) (K : KeyT P kt d kv) {e : MapEntry} (he : e ∈ es.toList) {k : κ} (hk : e.key = kv k) :
    IterOk kv ev m (mdel lf k) es clock since (seen.push e.born) clock :=
  ⟨h.st, h.ents, h.old, h.clock_le, h.clock_le, h.filter K he hk, (List.filter_sublist).trans h.sub⟩

/-- a step: nothing is left, or an entry has come -/
theorem Sat.next (S : Sat g w (rangeA kv ev b r m lf :: L)) (K : KeyT P kt d kv) (ty : TypeId) :
    (lf = [] ∧ (Instr.next (.pointer (some ⟨r, 0, none⟩)) false ty).run P w = .ok (.tuple #[.bool false]) w) ∨
    ∃ k v w', (k, v) ∈ lf ∧ (k, v) ∈ m ∧ (Instr.next (.pointer (some ⟨r, 0, none⟩)) false ty).run P w = .ok (.tuple #[.bool true, kv k, ev v]) w' ∧
      Sat g w' (rangeA kv ev b r m (mdel lf k) :: L) ∧ (mdel lf k).length < lf.length ∧ (Instr.entry (.pointer (some ⟨r, 0, none⟩))).run P w' = .ok (.tuple #[kv k, ev v]) w' := by
  have hn := S.rangeNodup
  obtain ⟨es, clock, since, seen, c0, h, S1⟩ := S.rangeOpen
  obtain ⟨o, hb, rfl⟩ := S1.own_get
  obtain ⟨o, hr, rfl⟩ := S1.p1.own_get
  have hne := S1.own_ne
  have hst := (stamped_iff es clock).1 h.st
  rcases run_next_at (P := P) w ty r b since c0 seen es clock hr hb h.old h.c0_le with ⟨h0, hrun⟩ | ⟨e, he, w1, hal, hrun⟩
  · left
    refine ⟨?_, hrun⟩
    have := congrArg List.length h.left
    simpa [h0] using this.symm
  · right
    obtain ⟨hem, hes⟩ := mem_left he
    have h1 : (e.key, e.val) ∈ lf.map fun p => (kv p.1, ev p.2) := by rw [← h.left]; exact List.mem_map.2 ⟨e, he, rfl⟩
    obtain ⟨⟨k, v⟩, hp, hpe⟩ := List.mem_map.1 h1
    simp only [Prod.mk.injEq] at hpe
    obtain ⟨hk, hv⟩ := hpe
    have hok := h.step K hem hk.symm
    have S2 : Sat g w1 (own r (fun o => o = .mapIter (some b) since seen c0) :: own b (fun o => o = .map es clock) :: L) := by
      rcases hal with rfl | rfl
      · exact S1.p1
      · exact S1.p1.drew
    have hr1 : w1.heap[r]? = some (.mapIter (some b) since seen c0) := by rcases hal with rfl | rfl <;> exact hr
    have hb1 : w1.heap[b]? = some (.map es clock) := by rcases hal with rfl | rfl <;> exact hb
    have hset := heap_set (o' := .mapIter (some b) since (seen.push e.born) clock) hr1
    have hkp : Keeps (fun i => i = r) w1 (ChangeMaps.setBlock w1 r (.mapIter (some b) since (seen.push e.born) clock)) :=
      ⟨rfl, rfl, rfl, by simp [ChangeMaps.setBlock], fun i _ hi => hset.2 i hi⟩
    have S3 := (S2.own_put (Φ' := fun o => o = .mapIter (some b) since (seen.push e.born) clock) hkp hset.1 rfl).p1
    have hb' := (hset.2 b hne).trans hb1
    refine ⟨k, v, _, hp, h.sub.subset hp, by rw [hk, hv]; exact hrun, Sat.rangeShut hok S3, ?_, ?_⟩
    · have hl := congrArg List.length h.left
      have hl2 := congrArg List.length (h.filter K hem hk.symm)
      have hl3 := left_shrinks es seen e he
      simp only [List.length_map, Array.length_toList] at hl hl2
      omega
    · rw [hk, hv]
      exact run_entry_at _ r b since seen es clock e hset.1 hb' hem hst.2.1

/-! ### at the operations -/
theorem wpList_srange {ops : Array Oper} {rest : List Oper} {o : Oper} {a : Act} {Q : Exit → Act → World → Prop} (hg : o.guard = none) (x : Operand) (t : TypeId) (hop : o.op = Op.range t x) {et : TypeId} (ht : P.underlying t = some (.map kt et))
    (S : Sat g w (mapA kv ev b m :: L)) (hx : a.eval x = .map (some b))
    (hK : ∀ w', Sat g w' (rangeA kv ev b w.heap.size m m :: L) → wpList P ops Q rest (a.put o.dst (.pointer (some ⟨w.heap.size, 0, none⟩))) w') : wpList P ops Q (o :: rest) a w := by
  refine wpList_plain hg fun K' hK' => ?_
  obtain ⟨w', hrun, r1⟩ := S.range (P := P) ht
  unfold Oper.wp
  simp [execOp, hop, hx, hrun, Result.andThen]
  exact hK' _ _ (hK w' r1)
theorem wpList_snext {ops : Array Oper} {rest : List Oper} {o : Oper} {a : Act} {Q : Exit → Act → World → Prop} (hg : o.guard = none) (it : Operand) (hop : o.op = Op.next it false) (K : KeyT P kt d kv)
    (S : Sat g w (rangeA kv ev b r m lf :: L)) (hit : a.eval it = .pointer (some ⟨r, 0, none⟩))
    (hDone : lf = [] → wpList P ops Q rest (a.put o.dst (.tuple #[.bool false])) w)
    (hMore : ∀ k v w', (k, v) ∈ lf → (k, v) ∈ m → Sat g w' (rangeA kv ev b r m (mdel lf k) :: L) → (mdel lf k).length < lf.length →
      (Instr.entry (.pointer (some ⟨r, 0, none⟩))).run P w' = .ok (.tuple #[kv k, ev v]) w' → wpList P ops Q rest (a.put o.dst (.tuple #[.bool true, kv k, ev v])) w') : wpList P ops Q (o :: rest) a w := by
  refine wpList_plain hg fun K' hK' => ?_
  unfold Oper.wp
  rcases S.next K o.type with ⟨h0, hrun⟩ | ⟨k, v, w', hm1, hm2, hrun, S', hlt, hen⟩
  · simp [execOp, hop, hit, hrun, Result.andThen]
    exact hK' _ _ (hDone h0)
  · simp [execOp, hop, hit, hrun, Result.andThen]
    exact hK' _ _ (hMore k v w' hm1 hm2 S' hlt hen)
end
end

section
set_option linter.unusedVariables false
set_option linter.unusedSimpArgs false
open Go.RowKit Go.Shelf

/-- texts, in order -/
def sortB (l : List (List UInt8)) : List (List UInt8) := l.mergeSort fun x y => decide (x ≤ y)
theorem sortB_perm (l : List (List UInt8)) : (sortB l).Perm l := List.mergeSort_perm _ _
theorem sortB_length (l : List (List UInt8)) : (sortB l).length = l.length := (sortB_perm l).length_eq

theorem keeps_putRow (w : World) (n b : Nat) (d : Array (List UInt8)) (os : Array Obj) : Keeps (fun i => i = b) w (Go.Sort.grow (Go.Sort.putRow encStr (Go.Sort.ahead w n) b 0 d) os) := by
  refine ⟨rfl, rfl, rfl, ?_, fun i hi hne => ?_⟩
  · simp [Go.Sort.grow, Go.Sort.putRow, Go.Sort.mapBlock, Go.Sort.ahead]
  · have : ¬ b = i := fun e => hne e.symm
    simp [Go.Sort.grow, Go.Sort.putRow, Go.Sort.mapBlock, Go.Sort.ahead, Array.getElem?_append, Array.getElem?_modify, Array.getElem_modify, hi, this]

theorem sort_strs {g w : World} {L : List Asn} {v : Value} {xs : List (List UInt8)} (S : Sat g w (rowA 9 1 v xs.length (Ss xs) :: L)) (hl : xs.length ≤ 1000000) :
    Calls Tryz.prog 105 #[v] w fun e w' => e = .returned (.tuple #[]) ∧ Sat g w' (rowA 9 1 v xs.length (Ss (sortB xs)) :: L) := by
  obtain ⟨hlen, hr⟩ := S.row
  rcases hr with ⟨rfl, h0⟩ | ⟨b, cap, cur, rfl, _, hb, r1, r2, r3, r4⟩
  · obtain rfl : xs = [] := List.length_eq_zero_iff.1 h0
    refine (AnyM.slices_Sort_string_none Tryz.sortT none 0 w).mono ?_
    rintro e w' ⟨rfl, rfl⟩
    exact ⟨rfl, by simpa [sortB] using S⟩
  · have hcell : ∀ j, (h : j < xs.length) → cur[j]? = some (encStr xs[j]) := by
      intro j hj
      have h1 := congrArg (·[j]?) r4
      simp only [Nat.mul_one, List.getElem?_take, hj, if_true, Ss, List.getElem?_map, List.getElem?_eq_getElem hj, Option.map_some] at h1
      have h2 : cur[j]? = some (Value.string (Go.Proofs.YtanlobdidjednaaGreatDoor.S xs[j])) := by simpa using h1
      exact h2
    have hH : Go.Sort.Holds encStr w b 0 xs.toArray := by
      intro j hj
      have hj2 : j < xs.length := by simpa using hj
      refine ⟨?_, ?_⟩
      · rw [Nat.zero_add, cell_of_row w b j cur _ (0, 0) hb, hcell j hj2, getElem!_pos _ j hj]
        rfl
      · simp [World.frozen?, hb]
    refine (AnyM.slices_Sort_string Tryz.sortT b 0 cap xs w hH (heap_lt hb) (by omega)).mono ?_
    rintro e w' ⟨rfl, n, os, rfl⟩
    refine ⟨rfl, ?_⟩
    have hk := keeps_putRow w n b (sortB xs).toArray os
    have hsz : (sortB xs).length = xs.length := sortB_length xs
    have hb' : (Go.Sort.grow (Go.Sort.putRow encStr (Go.Sort.ahead w n) b 0 (sortB xs).toArray) os).heap[b]? = some (.cells (Go.Sort.putCells encStr 0 (sortB xs).toArray cur) 9 (0, 0)) := by
      have hlt := heap_lt hb
      have hb2 : w.heap[b] = .cells cur 9 (0, 0) := by
        rw [Array.getElem?_eq_getElem hlt] at hb
        exact Option.some.inj hb
      simp [Go.Sort.grow, Go.Sort.putRow, Go.Sort.mapBlock, Go.Sort.ahead, Array.getElem?_append, Array.getElem?_modify, Array.getElem_modify, hlt, hb2, Go.Sort.onCells]
    refine S.grew (v' := .slice (some ⟨b, 0, none⟩) xs.length cap) ⟨by simp [Ss, hsz], .inr ⟨b, cap, _, rfl, Nat.zero_le _, hb', r1, r2, by simpa [Go.Sort.putCells] using r3, ?_⟩⟩ ⟨hk.mono fun i _ e => by rw [e]; rfl, fun g hg => .inl hg⟩
    apply List.ext_getElem?
    intro k
    simp only [Nat.mul_one, List.getElem?_take, Ss, List.getElem?_map, Go.Sort.putCells, Array.getElem?_toList, Array.getElem?_mapIdx]
    by_cases hk2 : k < xs.length
    · rw [if_pos hk2, hcell k hk2]
      have h4 : k < (sortB xs).length := by omega
      have h5 : ((sortB xs).toArray)[k]! = (sortB xs)[k] := getElem!_pos (sortB xs).toArray k (by simpa using h4)
      rw [List.getElem?_eq_getElem h4]
      simp [h4, h5]
      rfl
    · rw [if_neg hk2, List.getElem?_eq_none (by omega)]
      rfl
end

section
set_option linter.unusedVariables false
set_option linter.unusedSimpArgs false
open Go.RowKit

/-- a node -/
structure NodeT where
  data : List UInt8
  version : Int
  below : Int
  owner : Int
  made : Int
  set : Int
  serial : Int
deriving DecidableEq
def zN : NodeT := ⟨[], 0, 0, 0, 0, 0, 0⟩
abbrev nodV (n : NodeT) : Value := .agg #[.string (S n.data), .int .i64 n.version, .int .i64 n.below, .int .i64 n.owner, .int .i64 n.made, .int .i64 n.set, .int .i64 n.serial]
abbrev TreeT := List (List UInt8 × NodeT)
abbrev kS (k : List UInt8) : Value := .string (S k)
theorem kTS : KeyT Tryz.prog 9 .string kS := ⟨Tryz.underlying9, fun _ => trivial, fun a b h => S_inj (by injection h)⟩
theorem zeroN (w : World) : (zeroValue 46).run Tryz.prog w = .ok (nodV zN) w := by kernel_rfl

def treeA (b : Nat) (T : TreeT) : Asn := exA fun mb : Nat => star (cellsA b 114 #[.map (some mb)]) (mapA kS nodV mb T)
section
variable {g w w' : World} {L : List Asn} {b mb : Nat} {T : TreeT}
theorem Sat.treeOpen (S : Sat g w (treeA b T :: L)) : ∃ mb, Sat g w (cellsA b 114 #[.map (some mb)] :: mapA kS nodV mb T :: L) := by
  obtain ⟨mb, S⟩ := S.ex
  exact ⟨mb, S.split⟩
theorem Sat.treeShut (S : Sat g w (cellsA b 114 #[.map (some mb)] :: mapA kS nodV mb T :: L)) : Sat g w (treeA b T :: L) := Sat.ex_ mb S.join
theorem Sat.treeNodup (S : Sat g w (treeA b T :: L)) : (keys T).Nodup := by
  obtain ⟨mb, S⟩ := S.treeOpen
  exact S.p1.mapOf.nodup
theorem look_node (S : Sat g w (mapA kS nodV mb T :: L)) {k : List UInt8} {n : NodeT} (h : mget T k = some n) (ok : Bool) :
    (Instr.lookup 112 (.map (some mb)) (.string (Go.Proofs.YtanlobdidjednaaGreatDoor.S k)) ok).run Tryz.prog w = .ok (if ok then .tuple #[nodV n, .bool true] else nodV n) w := S.mapOf.look_some kTS Tryz.underlying112 h ok
theorem look_non (S : Sat g w (mapA kS nodV mb T :: L)) {k : List UInt8} (h : mget T k = none) (ok : Bool) :
    (Instr.lookup 112 (.map (some mb)) (.string (Go.Proofs.YtanlobdidjednaaGreatDoor.S k)) ok).run Tryz.prog w = .ok (if ok then .tuple #[nodV zN, .bool false] else nodV zN) w := S.mapOf.look_none kTS Tryz.underlying112 h (zeroN w) ok
theorem put_node (S : Sat g w (mapA kS nodV mb T :: L)) (k : List UInt8) (n : NodeT) :
    ∃ w', (Instr.mapUpdate 112 (.map (some mb)) (.string (Go.Proofs.YtanlobdidjednaaGreatDoor.S k)) (nodV n)).run Tryz.prog w = .ok () w' ∧ Sat g w' (mapA kS nodV mb (mput T k n) :: L) := by
  obtain ⟨w', h1, h2, h3⟩ := S.mapOf.update kTS Tryz.underlying112 k n
  exact ⟨w', h1, S.mapPut h3 h2⟩
theorem del_node (S : Sat g w (mapA kS nodV mb T :: L)) (k : List UInt8) :
    ∃ w', (∀ ty, (Builtin.delete_ #[112, 9] ty #[.map (some mb), .string (Go.Proofs.YtanlobdidjednaaGreatDoor.S k)]).run Tryz.prog w = .ok (.tuple #[]) w') ∧ Sat g w' (mapA kS nodV mb (mdel T k) :: L) := by
  obtain ⟨w', h1, h2, h3⟩ := S.mapOf.delete (ty := 0) (t2 := 9) kTS Tryz.underlying112 k
  exact ⟨w', fun _ => h1, S.mapPut h3 h2⟩
theorem len_node (S : Sat g w (mapA kS nodV mb T :: L)) (ty : TypeId) : (Builtin.len_ #[112] ty #[.map (some mb)]).run Tryz.prog w = .ok (.int .i64 T.length) w :=
  S.mapOf.len (ty := ty) Tryz.underlying112

def getF (T : TreeT) (s : List UInt8) : NodeT × Int :=
  if checkF s = 0 then (match mget T s with | some n => (n, 0) | none => (zN, 11)) else (zN, checkF s)
abbrev nodC (n : NodeT) : Array Value := #[.string (S n.data), .int .i64 n.version, .int .i64 n.below, .int .i64 n.owner, .int .i64 n.made, .int .i64 n.set, .int .i64 n.serial]
theorem Sat.nod {x : Nat} {n : NodeT} (S0 : Sat g w (cellsA x 46 (nodC n) :: L)) :
    w.cell? ⟨x, 0, none⟩ = some (.string (S n.data)) ∧ w.cell? ⟨x, 1, none⟩ = some (.int .i64 n.version) ∧ w.cell? ⟨x, 2, none⟩ = some (.int .i64 n.below) ∧ w.cell? ⟨x, 3, none⟩ = some (.int .i64 n.owner) ∧
    w.cell? ⟨x, 4, none⟩ = some (.int .i64 n.made) ∧ w.cell? ⟨x, 5, none⟩ = some (.int .i64 n.set) ∧ w.cell? ⟨x, 6, none⟩ = some (.int .i64 n.serial) :=
  ⟨S0.cell 0 _ rfl, S0.cell 1 _ rfl, S0.cell 2 _ rfl, S0.cell 3 _ rfl, S0.cell 4 _ rfl, S0.cell 5 _ rfl, S0.cell 6 _ rfl⟩

abbrev zC : Array Value := #[.string ⟨#[]⟩, .int .i64 0, .int .i64 0, .int .i64 0, .int .i64 0, .int .i64 0, .int .i64 0]
set_option maxHeartbeats 1000000 in
theorem get_tree (S0 : Sat g w (treeA b T :: L)) (hG : GL w) (s : List UInt8) (hs : s.length ≤ 9223372036854775807) :
    Calls Tryz.prog 104 #[ptr b, .string (S s)] w fun e w' => e = .returned (.tuple #[nodV (getF T s).1, .int .i64 (getF T s).2]) ∧ Sat g w' (treeA b T :: L) := by
  have HF : Hid (getF T s = if checkF s = 0 then (match mget T s with | some n => (n, 0) | none => (zN, 11)) else (zN, checkF s)) := rfl
  have hch := fun w hG => check_path w s hs hG
  have hcc := check_cases s
  generalize getF T s = G at *
  generalize checkF s = C at *
  have S1 := S0.box zC 46 rfl
  have hG1 : GL (w.alloc (.cells zC 46)) := hG.keep ((Keeps.refl (fun _ => False) w).alloc _) (fun h => h)
  go_enter Tryz.func104, Tryz.ntmps104
  go_upto_region 1 with fail
  generalize w.alloc (.cells zC 46) = w1 at *
  generalize w.heap.size = rb at *
  go_wp2_with fail
  refine (hch w1 hG1).mono ?_
  rintro e w2 ⟨rfl, hk2⟩
  have S2 := S1.keep hk2
  clear S0 S1 hG hG1 hch hk2
  rcases hcc with rfl | rfl
  · obtain ⟨mb, S3⟩ := S2.p1.treeOpen
    clear S2
    have c0 := S3.cell 0 _ rfl
    cases hg : mget T s with
    | some n =>
      have e : G = (n, 0) := by rw [HF.out, if_pos rfl, hg]
      subst e
      have hl := look_node S3.p1 hg true
      clear HF hg
      go_upto_region 6 with fail
      have S4 := S3.box (nodC n) 46 rfl
      generalize w2.alloc (.cells (nodC n) 46) = w3 at *
      generalize w2.heap.size = xb at *
      obtain ⟨a0, a1, a2, a3, a4, a5, a6⟩ := S4.nod
      clear S3 c0 hl
      go_wp2_with ((show Go.wpList _ _ _ (Oper.mk none (Op.store _ _ _) _ _ _ _ :: _) _ _); refine wpList_sstore rfl _ (.tmp 4) (.tmp 27) rfl S4.p3 _ rfl rfl (by kernel_rfl) rfl (by simp [Value.oneCell']) ?_; intro S8)
      refine bodyPost_ret (results_row_tmp Tryz.results104 _ _ rb _ _ _ _ rfl S8.cells_get Tryz.underlying46 rfl (by kernel_rfl)) rfl ?_
      exact ⟨rfl, S8.drop.drop.treeShut⟩
    | none =>
      have e : G = (zN, 11) := by rw [HF.out, if_pos rfl, hg]
      subst e
      have hl := look_non S3.p1 hg true
      clear HF hg
      go_upto_region 6 with fail
      have S4 := S3.box (nodC zN) 46 rfl
      generalize w2.alloc (.cells (nodC zN) 46) = w3 at *
      generalize w2.heap.size = xb at *
      clear S3 c0 hl
      go_wp2_with ((show Go.wpList _ _ _ (Oper.mk none (Op.store _ _ _) _ _ _ _ :: _) _ _); refine wpList_sstore rfl _ (.tmp 4) (.tmp 28) rfl S4.p3 _ rfl rfl (by kernel_rfl) rfl (by simp [Value.oneCell']) ?_; intro S8)
      refine bodyPost_ret (results_row_tmp Tryz.results104 _ _ rb _ _ _ _ rfl S8.cells_get Tryz.underlying46 rfl (by kernel_rfl)) rfl ?_
      exact ⟨rfl, S8.drop.drop.treeShut⟩
  · have e : G = (zN, 10) := by rw [HF.out, if_neg (by decide)]
    subst e
    clear HF
    go_wp2_with ((show Go.wpList _ _ _ (Oper.mk none (Op.store _ _ _) _ _ _ _ :: _) _ _); refine wpList_sstore rfl _ (.tmp 4) (.tmp 13) rfl S2 _ rfl rfl (by kernel_rfl) rfl (by simp [Value.oneCell']) ?_; intro S8)
    refine bodyPost_ret (results_row_tmp Tryz.results104 _ _ rb _ _ _ _ rfl S8.cells_get Tryz.underlying46 rfl (by kernel_rfl)) rfl ?_
    exact ⟨rfl, S8.drop⟩
end

/-! ### plain: what Create, Set, Delete do -/
def createG (T : TreeT) (s up : List UInt8) (a : NodeT) (data : List UInt8) (owner when_ : Int) (serial : Bool) : List UInt8 × Int × TreeT :=
  if (mget T s).isSome = true then ([], 12, T) else if 60 ≤ T.length then ([], 16, T)
  else (s, 0, mput (mput T up ⟨a.data, a.version, a.below + 1, a.owner, a.made, a.set, if serial = true then a.serial + 1 else a.serial⟩) s ⟨data, 0, 0, owner, when_, when_, 0⟩)
def createF (T : TreeT) (s data : List UInt8) (owner when_ : Int) (serial : Bool) : List UInt8 × Int × TreeT :=
  if checkF s ≠ 0 then ([], checkF s, T) else if s = [47] then ([], 12, T) else if 60 < data.length then ([], 3, T) else
  match mget T (upF s).1 with
  | none => ([], 11, T)
  | some a => if a.owner ≠ 0 then ([], 15, T) else
    if serial = true then (if checkF (serialF s a.serial) ≠ 0 then ([], 10, T) else createG T (serialF s a.serial) (upF s).1 a data owner when_ true)
    else createG T s (upF s).1 a data owner when_ false
def atF (T : TreeT) (s : List UInt8) (v : Int) : NodeT × Int :=
  if (getF T s).2 = 0 ∧ 0 ≤ v ∧ (getF T s).1.version ≠ v then (zN, 14) else getF T s
def setF (T : TreeT) (s data : List UInt8) (v when_ : Int) : Int × Int × TreeT :=
  if (atF T s v).2 ≠ 0 then (0, (atF T s v).2, T) else if 60 < data.length then (0, 3, T) else
  ((atF T s v).1.version + 1, 0, mput T s ⟨data, (atF T s v).1.version + 1, (atF T s v).1.below, (atF T s v).1.owner, (atF T s v).1.made, when_, (atF T s v).1.serial⟩)

theorem mput_head {κ α : Type} [DecidableEq κ] {m : List (κ × α)} {k : κ} {v v' : α} (h : k ∉ keys m) : mput ((k, v) :: m) k v' = (k, v') :: m := by
  unfold mput
  rw [if_pos (by simp [mget])]
  simp only [List.map_cons, if_true]
  congr 1
  conv => rhs; rw [← List.map_id m]
  apply List.map_congr_left
  intro q hq
  have : ¬ q.1 = k := fun e => h (List.mem_map.2 ⟨q, hq, e⟩)
  simp [this]
theorem mput_new {κ α : Type} [DecidableEq κ] {m : List (κ × α)} {k : κ} {v : α} (h : mget m k = none) : mput m k v = m ++ [(k, v)] := by
  unfold mput
  rw [h]
  rfl
end

section
set_option linter.unusedVariables false
set_option linter.unusedSimpArgs false
open Go.RowKit

section
variable {g w : World} {L : List Asn} {b mb x : Nat} {T : TreeT}
theorem new_tree (S0 : Sat g w L) : Calls Tryz.prog 34 #[] w fun e w' => ∃ t, e = .returned (ptr t) ∧ Sat g w' (treeA t [([47], zN)] :: L) := by
  have hmm := @run_makeMap Tryz.prog
  have S1 : Sat g (w.alloc (.map #[] 0)) (mapA kS nodV w.heap.size [] :: L) := S0.mapNew ((Keeps.refl _ w).alloc _) (Nat.le_refl _) (MapOf.made kS nodV w)
  obtain ⟨w2, hup, S2⟩ := put_node S1 [47] zN
  have hup' : (Instr.mapUpdate 112 (.map (some w.heap.size)) (.string ⟨#[47]⟩) (.agg #[.string ⟨#[]⟩, .int .i64 0, .int .i64 0, .int .i64 0, .int .i64 0, .int .i64 0, .int .i64 0])).run Tryz.prog (w.alloc (.map #[] 0)) = .ok () w2 := hup
  have e : mput ([] : TreeT) [47] zN = [([47], zN)] := rfl
  rw [e] at S2
  have HS := hide S2
  clear S2 S1 hup S0
  go_enter Tryz.func34, Tryz.ntmps34
  go_wp2_with fail
  go_ret
  exact ⟨w2.heap.size, rfl, Sat.treeShut (HS.out.box _ _ rfl)⟩

theorem serial_len (s : List UInt8) (n : Int) (h0 : 0 ≤ n) (hn : n < 100) : (serialF s n).length = s.length + 10 := by
  have := pad_fix 10 n.toNat (by decide) (by omega)
  show (s ++ Lib.repeatL [48] (10 - (Lib.decDigits n.toNat).length) ++ Lib.decDigits n.toNat).length = _
  rw [List.append_assoc, this.2, List.length_append, fixD_length]

theorem createG_old {s up data : List UInt8} {a n : NodeT} {owner when_ : Int} {f : Bool} (h : mget T s = some n) : createG T s up a data owner when_ f = ([], 12, T) := by
  simp [createG, h]
theorem createG_new {s up data : List UInt8} {a : NodeT} {owner when_ : Int} {f : Bool} (h : mget T s = none) : createG T s up a data owner when_ f =
    if 60 ≤ T.length then ([], 16, T) else (s, 0, mput (mput T up ⟨a.data, a.version, a.below + 1, a.owner, a.made, a.set, if f = true then a.serial + 1 else a.serial⟩) s ⟨data, 0, 0, owner, when_, when_, 0⟩) := by
  simp [createG, h]
set_option maxRecDepth 100000 in
set_option maxHeartbeats 8000000 in
theorem create_tree (S0 : Sat g w (treeA b T :: L)) (hG : GL w) (s data : List UInt8) (owner when_ : Int) (serial : Bool) (hs : s.length ≤ 140737488350000) (hd : data.length ≤ 140737488350000) (hT : T.length ≤ 1000000)
    (hb : ∀ a, mget T (upF s).1 = some a → 0 ≤ a.serial ∧ a.serial < 100 ∧ 0 ≤ a.below ∧ a.below ≤ 1000000) :
    Calls Tryz.prog 108 #[ptr b, .string (S s), .string (S data), .int .i64 owner, .int .i64 when_, .bool serial] w fun e w' =>
      e = .returned (.tuple #[.string (S (createF T s data owner when_ serial).1), .int .i64 (createF T s data owner when_ serial).2.1]) ∧ Sat g w' (treeA b (createF T s data owner when_ serial).2.2 :: L) := by
  have HR : Hid (∀ r, createF T s data owner when_ serial = r → ∀ w', Sat g w' (treeA b r.2.2 :: L) → Ending.returned (.tuple #[.string (S r.1), .int .i64 r.2.1]) = Ending.returned (.tuple #[.string (S (createF T s data owner when_ serial).1), .int .i64 (createF T s data owner when_ serial).2.1]) ∧ Sat g w' (treeA b (createF T s data owner when_ serial).2.2 :: L)) :=
    hide fun r h w' S' => by subst h; exact ⟨rfl, S'⟩
  have HF : Hid (createF T s data owner when_ serial = if checkF s ≠ 0 then ([], checkF s, T) else if s = [47] then ([], 12, T) else if 60 < data.length then ([], 3, T) else
    match mget T (upF s).1 with
    | none => ([], 11, T)
    | some a => if a.owner ≠ 0 then ([], 15, T) else
      if serial = true then (if checkF (serialF s a.serial) ≠ 0 then ([], 10, T) else createG T (serialF s a.serial) (upF s).1 a data owner when_ true)
      else createG T s (upF s).1 a data owner when_ false) := rfl
  generalize createF T s data owner when_ serial = R at *
  have hch := check_path w s (by omega) hG
  rcases check_cases s with hc | hc
  · rw [hc] at hch
    have HF2 : Hid (R = if s = [47] then ([], 12, T) else if 60 < data.length then ([], 3, T) else
      match mget T (upF s).1 with
      | none => ([], 11, T)
      | some a => if a.owner ≠ 0 then ([], 15, T) else
        if serial = true then (if checkF (serialF s a.serial) ≠ 0 then ([], 10, T) else createG T (serialF s a.serial) (upF s).1 a data owner when_ true)
        else createG T s (upF s).1 a data owner when_ false) := hide (by rw [HF.out, if_neg (by simp [hc])])
    clear HF hc
    have hup := fun w => up_path w s (by omega)
    generalize (upF s).1 = up at *
    generalize (upF s).2 = last at *
    have HGL : Hid (∀ w1, Keeps (fun _ => False) w w1 → GL w1) := hide fun w1 hk => hG.keep hk fun h => h
    have HS0 := hide S0
    clear S0 hG
    go_enter Tryz.func108, Tryz.ntmps108
    go_wp2_with fail
    refine hch.mono ?_
    rintro e w1 ⟨rfl, hk1⟩
    clear hch
    go_wp2_with fail
    refine (hup w1).mono ?_
    rintro e w2 ⟨rfl, hk2⟩
    have S2 := HS0.out.keep (hk1.trans' hk2)
    have HK2 := hide (hk1.trans' hk2)
    have HK3 : Hid (∀ o, Keeps (fun _ => False) w (w2.alloc o)) := hide fun o => (hk1.trans' hk2).alloc o
    clear hk1 hk2 hup HS0
    obtain ⟨mb, S3⟩ := S2.treeOpen
    clear S2
    have c0 := S3.cell 0 _ rfl
    cases hg : mget T up with
    | none =>
      have hl := look_non S3.p1 hg true
      have e3 : R = if s = [47] then ([], 12, T) else if 60 < data.length then ([], 3, T) else ([], 11, T) := by rw [HF2.out, hg]
      have HF3 := hide e3
      clear hg e3 HF2
      go_upto_region 6 with fail
      have S4 := S3.box (nodC zN) 46 rfl
      generalize w2.alloc (.cells (nodC zN) 46) = wC at *
      generalize w2.heap.size = xb at *
      have S5 := S4.drop.treeShut
      clear S3 S4 c0 hl hb HGL HK2 HK3
      by_cases h47 : s = [47]
      · have h47b : (s == [47]) = true := by simpa using h47
        have e : R = ([], 12, T) := by rw [HF3.out, if_pos h47]
        have HE := hide e
        clear e HF3 h47
        go_wp2_with fail
        go_ret2
        exact HR.out ([], 12, T) HE.out _ S5
      · have h47b : (s == [47]) = false := by simpa using h47
        by_cases h60 : 60 < data.length
        · have e : R = ([], 3, T) := by rw [HF3.out, if_neg h47, if_pos h60]
          have HE := hide e
          clear e HF3 h47
          go_wp2_with fail
          go_ret2
          exact HR.out ([], 3, T) HE.out _ S5
        · have e : R = ([], 11, T) := by rw [HF3.out, if_neg h47, if_neg h60]
          have HE := hide e
          clear e HF3 h47
          go_wp2_with fail
          go_ret2
          exact HR.out ([], 11, T) HE.out _ S5
    | some a =>
      obtain ⟨hb0, hb1, hb2, hb3⟩ := hb a hg
      have hl := look_node S3.p1 hg true
      have e3 : R = if s = [47] then ([], 12, T) else if 60 < data.length then ([], 3, T) else
        if a.owner ≠ 0 then ([], 15, T) else
          if serial = true then (if checkF (serialF s a.serial) ≠ 0 then ([], 10, T) else createG T (serialF s a.serial) up a data owner when_ true)
          else createG T s up a data owner when_ false := by rw [HF2.out, hg]
      have HF3 := hide e3
      clear hg e3 HF2 hb
      go_upto_region 6 with fail
      have S4 := S3.box (nodC a) 46 rfl
      have HKC : Keeps (fun _ => False) w (w2.alloc (.cells (nodC a) 46)) := HK3.out _
      generalize w2.alloc (.cells (nodC a) 46) = wC at *
      generalize w2.heap.size = xb at *
      have HK4 := hide HKC
      clear S3 c0 hl HKC HK3 HK2
      obtain ⟨a0, a1, a2, a3, a4, a5, a6⟩ := S4.nod
      by_cases h47 : s = [47]
      · have h47b : (s == [47]) = true := by simpa using h47
        have e : R = ([], 12, T) := by rw [HF3.out, if_pos h47]
        have HE := hide e
        clear e HF3 h47
        go_wp2_with fail
        go_ret2
        exact HR.out ([], 12, T) HE.out _ S4.drop.treeShut
      · have h47b : (s == [47]) = false := by simpa using h47
        by_cases h60 : 60 < data.length
        · have e : R = ([], 3, T) := by rw [HF3.out, if_neg h47, if_pos h60]
          have HE := hide e
          clear e HF3 h47
          go_wp2_with fail
          go_ret2
          exact HR.out ([], 3, T) HE.out _ S4.drop.treeShut
        · by_cases how : a.owner = 0
          · have e4 : R = if serial = true then (if checkF (serialF s a.serial) ≠ 0 then ([], 10, T) else createG T (serialF s a.serial) up a data owner when_ true)
                else createG T s up a data owner when_ false := by rw [HF3.out, if_neg h47, if_neg h60, if_neg (by simp [how])]
            have HF4 := hide e4
            clear e4 HF3 h47
            obtain ⟨d, v, bl, ow, md, st, sr⟩ := a
            simp only at how hb0 hb1 hb2 hb3 a0 a1 a2 a3 a4 a5 a6 HF4
            subst how
            cases serial
            · have HT : Hid (R = createG T s up ⟨d, v, bl, 0, md, st, sr⟩ data owner when_ false) := hide (by rw [HF4.out, if_neg (by simp)])
              clear HF4
              go_upto_region 18 with fail
              have c0 := S4.p1.cell 0 _ rfl
              cases hg2 : mget T s with
              | some n2 =>
                have hl := look_node S4.p2 hg2 true
                have e : R = ([], 12, T) := by rw [HT.out]; exact createG_old hg2
                have HE := hide e
                clear e HT hg2
                go_upto_region 19 with fail
                have S5 := (S4.box (nodC n2) 46 rfl).drop
                generalize wC.alloc (.cells (nodC n2) 46) = w5 at *
                generalize wC.heap.size = yb at *
                clear S4 hl c0
                go_wp2_with fail
                go_ret2
                exact HR.out ([], 12, T) HE.out _ (S5.drop.treeShut)
              | none =>
                have hl := look_non S4.p2 hg2 true
                have HT2 : Hid (R = if 60 ≤ T.length then ([], 16, T) else (s, 0, mput (mput T up ⟨d, v, bl + 1, 0, md, st, sr⟩) s ⟨data, 0, 0, owner, when_, when_, 0⟩)) := hide (by rw [HT.out]; exact createG_new hg2)
                clear HT hg2
                go_upto_region 19 with fail
                have S6 := (S4.box (nodC zN) 46 rfl).drop
                generalize wC.alloc (.cells (nodC zN) 46) = w5 at *
                generalize wC.heap.size = yb at *
                clear S4 hl c0 a0 a1 a2 a3 a4 a5 a6
                obtain ⟨a0, a1, a2, a3, a4, a5, a6⟩ := S6.nod
                have c0 := S6.p1.cell 0 _ rfl
                have hlen := len_node S6.p2
                by_cases h60 : 60 ≤ T.length
                · have e : R = ([], 16, T) := by rw [HT2.out, if_pos h60]
                  have HE := hide e
                  clear e HT2
                  go_wp2_with fail
                  go_ret2
                  exact HR.out ([], 16, T) HE.out _ (S6.drop.treeShut)
                · have e : R = (s, 0, mput (mput T up ⟨d, v, bl + 1, 0, md, st, sr⟩) s ⟨data, 0, 0, owner, when_, when_, 0⟩) := by rw [HT2.out, if_neg h60]
                  have HE := hide e
                  clear e HT2
                  have h60b : (T.length : Int) < 60 := by omega
                  go_upto_region 23 with fail
                  clear hlen h60b h60
                  have S7 : Sat g w5 (cellsA xb 46 (nodC ⟨d, v, bl, 0, md, st, sr⟩) :: cellsA b 114 #[.map (some mb)] :: mapA kS nodV mb T :: L) := S6
                  go_upto_region 25 with fail
                  generalize w5 = w6 at *
                  clear S6 a0 a1 a2 a3 a4 a5 a6 c0

                  obtain ⟨a0, a1, a2, a3, a4, a5, a6⟩ := S7.nod
                  have f2 := S7.cells_fz 2
                  go_upto_region 26 with fail
                  have S8 : Sat g (w6.setCell ⟨xb, 2, none⟩ (.int .i64 (bl + 1))) (cellsA xb 46 (nodC ⟨d, v, bl + 1, 0, md, st, sr⟩) :: cellsA b 114 #[.map (some mb)] :: mapA kS nodV mb T :: L) := S7.setc 2 (.int .i64 (bl + 1))
                  generalize w6.setCell ⟨xb, 2, none⟩ (.int .i64 (bl + 1)) = w7 at *
                  clear S7 f2 a0 a1 a2 a3 a4 a5 a6
                  have S9 := S8.drew
                  obtain ⟨a0, a1, a2, a3, a4, a5, a6⟩ := S8.nod
                  obtain ⟨b0, b1, b2, b3, b4, b5, b6⟩ := S9.nod
                  have c0 := S8.p1.cell 0 _ rfl
                  have c0' := S9.p1.cell 0 _ rfl
                  obtain ⟨w10, hup, S10⟩ := put_node S9.p2 up ⟨d, v, bl + 1, 0, md, st, sr⟩
                  simp only at a0 a1 a2 a3 a4 a5 a6 b0 b1 b2 b3 b4 b5 b6
                  clear S8 S9
                  go_still_tail 6, (by kernel_rfl)
                  change wpList _ _ _ _ _ w7.drew
                  go_upto_region 27 with fail
                  clear hup c0 c0' a0 a1 a2 a3 a4 a5 a6 b0 b1 b2 b3 b4 b5 b6
                  have c0 := S10.p2.cell 0 _ rfl
                  obtain ⟨w11, hup, S11⟩ := put_node S10 s ⟨data, 0, 0, owner, when_, when_, 0⟩
                  clear S10
                  go_wp2_with fail
                  go_ret2
                  exact HR.out (s, 0, mput (mput T up ⟨d, v, bl + 1, 0, md, st, sr⟩) s ⟨data, 0, 0, owner, when_, when_, 0⟩) HE.out _ (Sat.treeShut (S11.p1.drop.p1))
            · have HF5 : Hid (R = if checkF (serialF s sr) ≠ 0 then ([], 10, T) else createG T (serialF s sr) up ⟨d, v, bl, 0, md, st, sr⟩ data owner when_ true) := hide (by rw [HF4.out, if_pos rfl])
              clear HF4
              have hsl := serial_len s sr hb0 hb1
              go_upto_region 15 with fail
              go_wp2_with fail
              refine (serial_path wC s sr hb0 hb1 (by omega)).mono ?_
              rintro e w3 ⟨rfl, hk3⟩
              generalize serialF s sr = s2 at *
              have S5 := S4.keep hk3
              obtain ⟨m0, m1, m2, m3, m4, m5, m6⟩ := S5.nod
              clear S4 a0 a1 a2 a3 a4 a5 a6
              go_wp2_with fail
              refine (check_path w3 s2 (by omega) (HGL.out _ (HK4.out.trans' hk3))).mono ?_
              rintro e wC ⟨rfl, hk4⟩
              have S4 := S5.keep hk4
              clear S5 m0 m1 m2 m3 m4 m5 m6 hk3 hk4 HGL HK4
              obtain ⟨a0, a1, a2, a3, a4, a5, a6⟩ := S4.nod
              rcases check_cases s2 with hc2 | hc2
              · have HT : Hid (R = createG T s2 up ⟨d, v, bl, 0, md, st, sr⟩ data owner when_ true) := hide (by rw [HF5.out, if_neg (by simp [hc2])])
                rw [hc2]
                clear HF5 hc2
                go_upto_region 18 with fail
                have c0 := S4.p1.cell 0 _ rfl
                cases hg2 : mget T s2 with
                | some n2 =>
                  have hl := look_node S4.p2 hg2 true
                  have e : R = ([], 12, T) := by rw [HT.out]; exact createG_old hg2
                  have HE := hide e
                  clear e HT hg2
                  go_upto_region 19 with fail
                  have S5 := (S4.box (nodC n2) 46 rfl).drop
                  generalize wC.alloc (.cells (nodC n2) 46) = w5 at *
                  generalize wC.heap.size = yb at *
                  clear S4 hl c0
                  go_wp2_with fail
                  go_ret2
                  exact HR.out ([], 12, T) HE.out _ (S5.drop.treeShut)
                | none =>
                  have hl := look_non S4.p2 hg2 true
                  have HT2 : Hid (R = if 60 ≤ T.length then ([], 16, T) else (s2, 0, mput (mput T up ⟨d, v, bl + 1, 0, md, st, sr + 1⟩) s2 ⟨data, 0, 0, owner, when_, when_, 0⟩)) := hide (by rw [HT.out]; exact createG_new hg2)
                  clear HT hg2
                  go_upto_region 19 with fail
                  have S6 := (S4.box (nodC zN) 46 rfl).drop
                  generalize wC.alloc (.cells (nodC zN) 46) = w5 at *
                  generalize wC.heap.size = yb at *
                  clear S4 hl c0 a0 a1 a2 a3 a4 a5 a6
                  obtain ⟨a0, a1, a2, a3, a4, a5, a6⟩ := S6.nod
                  have c0 := S6.p1.cell 0 _ rfl
                  have hlen := len_node S6.p2
                  by_cases h60 : 60 ≤ T.length
                  · have e : R = ([], 16, T) := by rw [HT2.out, if_pos h60]
                    have HE := hide e
                    clear e HT2
                    go_wp2_with fail
                    go_ret2
                    exact HR.out ([], 16, T) HE.out _ (S6.drop.treeShut)
                  · have e : R = (s2, 0, mput (mput T up ⟨d, v, bl + 1, 0, md, st, sr + 1⟩) s2 ⟨data, 0, 0, owner, when_, when_, 0⟩) := by rw [HT2.out, if_neg h60]
                    have HE := hide e
                    clear e HT2
                    have h60b : (T.length : Int) < 60 := by omega
                    go_upto_region 23 with fail
                    clear hlen h60b h60
                    have f6 := S6.cells_fz 6
                    go_upto_region 25 with fail
                    have S7 : Sat g (w5.setCell ⟨xb, 6, none⟩ (.int .i64 (sr + 1))) (cellsA xb 46 (nodC ⟨d, v, bl, 0, md, st, sr + 1⟩) :: cellsA b 114 #[.map (some mb)] :: mapA kS nodV mb T :: L) := S6.setc 6 (.int .i64 (sr + 1))
                    generalize w5.setCell ⟨xb, 6, none⟩ (.int .i64 (sr + 1)) = w6 at *
                    clear S6 f6 a0 a1 a2 a3 a4 a5 a6 c0

                    obtain ⟨a0, a1, a2, a3, a4, a5, a6⟩ := S7.nod
                    have f2 := S7.cells_fz 2
                    go_upto_region 26 with fail
                    have S8 : Sat g (w6.setCell ⟨xb, 2, none⟩ (.int .i64 (bl + 1))) (cellsA xb 46 (nodC ⟨d, v, bl + 1, 0, md, st, sr + 1⟩) :: cellsA b 114 #[.map (some mb)] :: mapA kS nodV mb T :: L) := S7.setc 2 (.int .i64 (bl + 1))
                    generalize w6.setCell ⟨xb, 2, none⟩ (.int .i64 (bl + 1)) = w7 at *
                    clear S7 f2 a0 a1 a2 a3 a4 a5 a6
                    have S9 := S8.drew
                    obtain ⟨a0, a1, a2, a3, a4, a5, a6⟩ := S8.nod
                    obtain ⟨b0, b1, b2, b3, b4, b5, b6⟩ := S9.nod
                    have c0 := S8.p1.cell 0 _ rfl
                    have c0' := S9.p1.cell 0 _ rfl
                    obtain ⟨w10, hup, S10⟩ := put_node S9.p2 up ⟨d, v, bl + 1, 0, md, st, sr + 1⟩
                    simp only at a0 a1 a2 a3 a4 a5 a6 b0 b1 b2 b3 b4 b5 b6
                    clear S8 S9
                    go_still_tail 6, (by kernel_rfl)
                    change wpList _ _ _ _ _ w7.drew
                    go_upto_region 27 with fail
                    clear hup c0 c0' a0 a1 a2 a3 a4 a5 a6 b0 b1 b2 b3 b4 b5 b6
                    have c0 := S10.p2.cell 0 _ rfl
                    obtain ⟨w11, hup, S11⟩ := put_node S10 s2 ⟨data, 0, 0, owner, when_, when_, 0⟩
                    clear S10
                    go_wp2_with fail
                    go_ret2
                    exact HR.out (s2, 0, mput (mput T up ⟨d, v, bl + 1, 0, md, st, sr + 1⟩) s2 ⟨data, 0, 0, owner, when_, when_, 0⟩) HE.out _ (Sat.treeShut (S11.p1.drop.p1))
              · have e : R = ([], 10, T) := by rw [HF5.out, if_pos (by simp [hc2])]
                have HE := hide e
                rw [hc2]
                clear e HF5 hc2
                go_wp2_with fail
                go_ret2
                exact HR.out ([], 10, T) HE.out _ S4.drop.treeShut
          · have hob : (a.owner != 0) = true := by simpa using how
            have e : R = ([], 15, T) := by rw [HF3.out, if_neg h47, if_neg h60, if_pos how]
            have HE := hide e
            clear e HF3 h47
            go_wp2_with fail
            go_ret2
            exact HR.out ([], 15, T) HE.out _ S4.drop.treeShut
  · have e : R = ([], 10, T) := by rw [HF.out, if_pos (by simp [hc]), hc]
    rw [hc] at hch
    have HE := hide e
    have HS0 := hide S0
    clear e HF hc S0 hb hG
    go_enter Tryz.func108, Tryz.ntmps108
    go_wp2_with fail
    refine hch.mono ?_
    rintro e w1 ⟨rfl, hk1⟩
    clear hch
    go_wp2_with fail
    go_ret2
    exact HR.out ([], 10, T) HE.out _ (HS0.out.keep hk1)
end
end

section
set_option linter.unusedVariables false
set_option linter.unusedSimpArgs false
open Go.RowKit

section
variable {g w : World} {L : List Asn} {b mb x : Nat} {T : TreeT}
set_option maxHeartbeats 2000000 in
theorem at_tree (S0 : Sat g w (treeA b T :: L)) (hG : GL w) (s : List UInt8) (v : Int) (hs : s.length ≤ 9223372036854775807) :
    Calls Tryz.prog 86 #[ptr b, .string (S s), .int .i64 v] w fun e w' => e = .returned (.tuple #[nodV (atF T s v).1, .int .i64 (atF T s v).2]) ∧ Sat g w' (treeA b T :: L) := by
  have HF : Hid (atF T s v = if (getF T s).2 = 0 ∧ 0 ≤ v ∧ (getF T s).1.version ≠ v then (zN, 14) else getF T s) := rfl
  have S1 := S0.box zC 46 rfl
  have hG1 : GL (w.alloc (.cells zC 46)) := hG.keep ((Keeps.refl (fun _ => False) w).alloc _) (fun h => h)
  have hget := get_tree S1.p1 hG1 s hs
  generalize getF T s = G at *
  generalize atF T s v = A at *
  obtain ⟨n, e0⟩ := G
  simp only at HF hget
  go_enter Tryz.func86, Tryz.ntmps86
  go_upto_region 1 with fail
  generalize w.alloc (.cells zC 46) = w1 at *
  generalize w.heap.size = rb at *
  go_wp2_with fail
  refine hget.mono ?_
  rintro e w2 ⟨rfl, S2⟩
  clear S0 S1 hG hG1 hget
  go_upto_region 2 with fail
  have S3 := S2.box (nodC n) 46 rfl
  generalize w2.alloc (.cells (nodC n) 46) = w3 at *
  generalize w2.heap.size = xb at *
  obtain ⟨a0, a1, a2, a3, a4, a5, a6⟩ := S3.nod
  clear S2
  by_cases h : e0 = 0 ∧ 0 ≤ v ∧ n.version ≠ v
  · have e : A = (zN, 14) := by rw [HF.out, if_pos h]
    subst e
    obtain ⟨rfl, h1, h2⟩ := h
    have h3 : (n.version != v) = true := by simpa using h2
    have h4 : (n.version == v) = false := by simpa using h2
    clear HF
    go_wp2_with ((show Go.wpList _ _ _ (Oper.mk none (Op.store _ _ _) _ _ _ _ :: _) _ _); refine wpList_sstore rfl _ (.tmp 6) (.tmp 28) rfl S3.p2 _ rfl rfl (by kernel_rfl) rfl (by simp [Value.oneCell']) ?_; intro S8)
    refine bodyPost_ret (results_row_tmp Tryz.results86 _ _ rb _ _ _ _ rfl S8.cells_get Tryz.underlying46 rfl (by kernel_rfl)) rfl ?_
    exact ⟨rfl, S8.drop.drop⟩
  · have e : A = (n, e0) := by rw [HF.out, if_neg h]
    subst e
    clear HF
    have hq : ∀ r : Bool, r = (decide (e0 = 0) && decide (0 ≤ v) && (n.version != v)) → r = false := by
      intro r hr
      rw [hr, Bool.eq_false_iff]
      intro hc
      simp only [Bool.and_eq_true, decide_eq_true_eq, bne_iff_ne, ne_eq] at hc
      exact h ⟨hc.1.1, hc.1.2, hc.2⟩
    by_cases h0 : e0 = 0
    · subst h0
      by_cases h1 : 0 ≤ v
      · have h2 : n.version = v := by
          apply Classical.byContradiction
          intro h3
          exact h ⟨rfl, h1, h3⟩
        subst h2
        have h3 : (n.version != n.version) = false := by simp
        clear h hq
        go_wp2_with ((show Go.wpList _ _ _ (Oper.mk none (Op.store _ _ _) _ _ _ _ :: _) _ _); refine wpList_sstore rfl _ (.tmp 6) (.tmp 29) rfl S3.p2 _ rfl rfl (by kernel_rfl) rfl (by simp [Value.oneCell']) ?_; intro S8)
        refine bodyPost_ret (results_row_tmp Tryz.results86 _ _ rb _ _ _ _ rfl S8.cells_get Tryz.underlying46 rfl (by kernel_rfl)) rfl ?_
        exact ⟨rfl, S8.drop.drop⟩
      · have h2 : decide (0 ≤ v) = false := by simpa using h1
        clear h hq
        go_wp2_with ((show Go.wpList _ _ _ (Oper.mk none (Op.store _ _ _) _ _ _ _ :: _) _ _); refine wpList_sstore rfl _ (.tmp 6) (.tmp 29) rfl S3.p2 _ rfl rfl (by kernel_rfl) rfl (by simp [Value.oneCell']) ?_; intro S8)
        refine bodyPost_ret (results_row_tmp Tryz.results86 _ _ rb _ _ _ _ rfl S8.cells_get Tryz.underlying46 rfl (by kernel_rfl)) rfl ?_
        exact ⟨rfl, S8.drop.drop⟩
    · have h0b : (e0 == 0) = false := by simpa using h0
      clear h hq
      go_wp2_with ((show Go.wpList _ _ _ (Oper.mk none (Op.store _ _ _) _ _ _ _ :: _) _ _); refine wpList_sstore rfl _ (.tmp 6) (.tmp 29) rfl S3.p2 _ rfl rfl (by kernel_rfl) rfl (by simp [Value.oneCell']) ?_; intro S8)
      refine bodyPost_ret (results_row_tmp Tryz.results86 _ _ rb _ _ _ _ rfl S8.cells_get Tryz.underlying46 rfl (by kernel_rfl)) rfl ?_
      exact ⟨rfl, S8.drop.drop⟩

theorem check_tree (S0 : Sat g w (treeA b T :: L)) (hG : GL w) (s : List UInt8) (v : Int) (hs : s.length ≤ 9223372036854775807) :
    Calls Tryz.prog 110 #[ptr b, .string (S s), .int .i64 v] w fun e w' => e = .returned (.int .i64 (atF T s v).2) ∧ Sat g w' (treeA b T :: L) := by
  have hat := at_tree S0 hG s v hs
  generalize atF T s v = A at *
  obtain ⟨n, e0⟩ := A
  simp only at hat ⊢
  go_enter Tryz.func110, Tryz.ntmps110
  go_wp2_with fail
  refine hat.mono ?_
  rintro e w2 ⟨rfl, S2⟩
  go_upto_region 2 with fail
  have HS := hide (S2.box (nodC n) 46 rfl).drop
  generalize w2.alloc (.cells (nodC n) 46) = w3 at *
  clear S2 hat S0
  go_wp2_with fail
  go_ret
  exact ⟨rfl, HS.out⟩

set_option maxRecDepth 100000 in
set_option maxHeartbeats 4000000 in
theorem set_tree (S0 : Sat g w (treeA b T :: L)) (hG : GL w) (s data : List UInt8) (v when_ : Int) (hs : s.length ≤ 9223372036854775807) (hd : data.length ≤ 140737488350000) (hv : 0 ≤ (atF T s v).1.version ∧ (atF T s v).1.version ≤ 1000000) :
    Calls Tryz.prog 109 #[ptr b, .string (S s), .string (S data), .int .i64 v, .int .i64 when_] w fun e w' =>
      e = .returned (.tuple #[.int .i64 (setF T s data v when_).1, .int .i64 (setF T s data v when_).2.1]) ∧ Sat g w' (treeA b (setF T s data v when_).2.2 :: L) := by
  have HR : Hid (∀ r, setF T s data v when_ = r → ∀ w', Sat g w' (treeA b r.2.2 :: L) → Ending.returned (.tuple #[.int .i64 r.1, .int .i64 r.2.1]) = Ending.returned (.tuple #[.int .i64 (setF T s data v when_).1, .int .i64 (setF T s data v when_).2.1]) ∧ Sat g w' (treeA b (setF T s data v when_).2.2 :: L)) :=
    hide fun r h w' S' => by subst h; exact ⟨rfl, S'⟩
  have HF : Hid (setF T s data v when_ = if (atF T s v).2 ≠ 0 then (0, (atF T s v).2, T) else if 60 < data.length then (0, 3, T) else
    ((atF T s v).1.version + 1, 0, mput T s ⟨data, (atF T s v).1.version + 1, (atF T s v).1.below, (atF T s v).1.owner, (atF T s v).1.made, when_, (atF T s v).1.serial⟩)) := rfl
  have hat := at_tree S0 hG s v hs
  generalize setF T s data v when_ = R at *
  generalize atF T s v = A at *
  obtain ⟨n, e0⟩ := A
  simp only at hat HF hv
  go_enter Tryz.func109, Tryz.ntmps109
  go_wp2_with fail
  refine hat.mono ?_
  rintro e w2 ⟨rfl, S2⟩
  clear hat S0 hG
  go_upto_region 2 with fail
  have S3 := S2.box (nodC n) 46 rfl
  generalize w2.alloc (.cells (nodC n) 46) = w3 at *
  generalize w2.heap.size = xb at *
  clear S2
  by_cases h0 : e0 = 0
  · subst h0
    by_cases h60 : 60 < data.length
    · have e : R = (0, 3, T) := by rw [HF.out, if_neg (by simp), if_pos h60]
      have HE := hide e
      clear e HF
      go_wp2_with fail
      go_ret2
      exact HR.out (0, 3, T) HE.out _ S3.drop
    · have e : R = (n.version + 1, 0, mput T s ⟨data, n.version + 1, n.below, n.owner, n.made, when_, n.serial⟩) := by rw [HF.out, if_neg (by simp), if_neg h60]
      have HE := hide e
      clear e HF
      obtain ⟨d, ve, bl, ow, md, st, sr⟩ := n
      simp only at HE hv
      obtain ⟨hv1, hv2⟩ := hv
      obtain ⟨a0, a1, a2, a3, a4, a5, a6⟩ := S3.nod
      simp only at a0 a1 a2 a3 a4 a5 a6
      have f0 := S3.cells_fz 0
      have f1 := S3.cells_fz 1
      have f5 := S3.cells_fz 5
      go_upto_region 7 with fail
      have S4 : Sat g (((w3.setCell ⟨xb, 0, none⟩ (.string (S data))).setCell ⟨xb, 1, none⟩ (.int .i64 (ve + 1))).setCell ⟨xb, 5, none⟩ (.int .i64 when_)) (cellsA xb 46 (nodC ⟨data, ve + 1, bl, ow, md, when_, sr⟩) :: treeA b T :: L) := ((S3.setc 0 _).setc 1 _).setc 5 _
      generalize ((w3.setCell ⟨xb, 0, none⟩ (.string (S data))).setCell ⟨xb, 1, none⟩ (.int .i64 (ve + 1))).setCell ⟨xb, 5, none⟩ (.int .i64 when_) = w4 at *
      clear S3 a0 a1 a2 a3 a4 a5 a6 f0 f1 f5
      obtain ⟨mb, S5⟩ := S4.p1.treeOpen
      clear S4
      have S6 := S5.p2
      have S9 := S6.drew
      obtain ⟨a0, a1, a2, a3, a4, a5, a6⟩ := S6.nod
      obtain ⟨b0, b1, b2, b3, b4, b5, b6⟩ := S9.nod
      have c0 := S6.p1.cell 0 _ rfl
      have c0' := S9.p1.cell 0 _ rfl
      obtain ⟨w10, hup, S10⟩ := put_node S9.p2 s ⟨data, ve + 1, bl, ow, md, when_, sr⟩
      simp only at a0 a1 a2 a3 a4 a5 a6 b0 b1 b2 b3 b4 b5 b6
      clear S5 S6 S9
      go_still_tail 6, (by kernel_rfl)
      change wpList _ _ _ _ _ w4.drew
      go_upto_region 8 with fail
      clear hup c0 c0' a0 a1 a2 a3 a4 a5 a6 b0 b1 b2 b3 b4 b5 b6
      obtain ⟨a0, a1, a2, a3, a4, a5, a6⟩ := S10.p1.nod
      go_wp2_with fail
      go_ret2
      exact HR.out (ve + 1, 0, mput T s ⟨data, ve + 1, bl, ow, md, when_, sr⟩) HE.out _ (S10.p1.drop.p1.treeShut)
  · have h0b : (e0 != 0) = true := by simpa using h0
    have e : R = (0, e0, T) := by rw [HF.out, if_pos h0]
    have HE := hide e
    clear e HF
    go_wp2_with fail
    go_ret2
    exact HR.out (0, e0, T) HE.out _ S3.drop
end
end

section
set_option linter.unusedVariables false
set_option linter.unusedSimpArgs false
theorem upF_cat (l p : List UInt8) (h : (47 : UInt8) ∉ p) (hp : p ≠ []) : upF (l ++ 47 :: p) = (if l = [] then [47] else l, p) := by
  unfold upF
  rw [last_sep l p h, if_neg (by
    rintro (h1 | h1)
    · have h2 := congrArg List.length h1
      have h3 : 1 ≤ p.length := by cases p with | nil => exact absurd rfl hp | cons a r => simp
      simp at h2
      omega
    · omega)]
  by_cases h0 : l = []
  · subst h0
    simp
  · rw [if_neg (by simpa using h0), if_neg h0]
    simp
theorem cutL_join (c : UInt8) (l p : List UInt8) : cutL c (l ++ c :: p) = cutL c l ++ cutL c p := by
  induction l with
  | nil => simp [cutL]
  | cons b r ih =>
    have e1 : cutL c (b :: r) = if b = c then [] :: cutL c r else match cutL c r with | p :: ps => (b :: p) :: ps | [] => [[b]] := by rw [cutL]; rfl
    have e2 : cutL c (b :: (r ++ c :: p)) = if b = c then [] :: cutL c (r ++ c :: p) else match cutL c (r ++ c :: p) with | p :: ps => (b :: p) :: ps | [] => [[b]] := by rw [cutL]; rfl
    rw [List.cons_append, e1, e2, ih]
    by_cases hb : b = c
    · rw [if_pos hb, if_pos hb, List.cons_append]
    · rw [if_neg hb, if_neg hb]
      obtain ⟨q, qs, e⟩ := cutL_ne c r
      rw [e]
      rfl
theorem check_cat (l p : List UInt8) (hl : (cutL 47 l).all partF = true) (hp : partF p = true) (hn : l.length + p.length ≤ 58) : checkF (47 :: l ++ 47 :: p) = 0 := by
  have h1 := part_len hp
  unfold checkF
  rw [if_neg (by
    intro h
    have := congrArg List.length h
    simp at this), if_neg (by simp; omega)]
  have e : List.drop 1 (47 :: l ++ 47 :: p) = l ++ 47 :: p := rfl
  rw [e, cutL_join, List.all_append, hl, cutL_none_ (part_slash hp)]
  simp [hp]
theorem check_part (p : List UInt8) (hp : partF p = true) : checkF (47 :: p) = 0 := by
  have h1 := part_len hp
  unfold checkF
  rw [if_neg (by
    intro h
    have := congrArg List.length h
    simp at this
    simp [this] at h1), if_neg (by simp; omega)]
  have e : List.drop 1 (47 :: p) = p := rfl
  rw [e, cutL_none_ (part_slash hp)]
  simp [hp]

/-- the name below the root with a number -/
def numP (k : Nat) : List UInt8 := 110 :: fixD 10 k
def numN (k : Nat) : List UInt8 := 47 :: numP k
theorem numP_part (k : Nat) : partF (numP k) = true := by
  have h1 : (fixD 10 k).all okc = true := by
    rw [List.all_eq_true]
    intro b hb
    have := fixD_digit 10 k b hb
    simp [okc]
    omega
  have h2 : okc 110 = true := by decide
  simp [partF, numP, fixD_length, h1, h2]
theorem serial_num (k : Nat) (hk : k < 10 ^ 10) : serialF [47, 110] k = numN k := by
  have := (pad_fix 10 k (by decide) hk).2
  show [47, 110] ++ Lib.repeatL [48] (10 - (Lib.decDigits k).length) ++ Lib.decDigits k = _
  rw [List.append_assoc, this]
  rfl
theorem check_num (k : Nat) : checkF (numN k) = 0 := check_part _ (numP_part k)
theorem up_num (k : Nat) : upF (numN k) = ([47], numP k) := by
  have := upF_cat [] (numP k) (part_slash (numP_part k)) (by simp [numP])
  exact this
theorem num_inj {j k : Nat} (hj : j < 10 ^ 10) (hk : k < 10 ^ 10) : numN j = numN k ↔ j = k := by
  unfold numN numP
  rw [List.cons_inj_right, List.cons_inj_right, fixD_inj 10 j k hj hk]
theorem num_root (k : Nat) : numN k ≠ [47] := by simp [numN, numP]
theorem num_less {j k : Nat} (hj : j < 10 ^ 10) (hk : k < 10 ^ 10) : Op.bytesLess (numN j) (numN k) = decide (j < k) := by
  have := less_app [47, 110] (fixD 10 j) (fixD 10 k)
  exact this.trans (fixD_less 10 j k hj hk)
theorem check_n : checkF [47, 110] = 0 := by decide
theorem up_n : upF [47, 110] = ([47], [110]) := upF_cat [] [110] (by decide) (by decide)

/-! ### Create, case by case -/
def moreN (a : NodeT) (f : Bool) : NodeT := ⟨a.data, a.version, a.below + 1, a.owner, a.made, a.set, if f = true then a.serial + 1 else a.serial⟩
def newN (data : List UInt8) (owner when_ : Int) : NodeT := ⟨data, 0, 0, owner, when_, when_, 0⟩
theorem createG_eq (T : TreeT) (s up : List UInt8) (a : NodeT) (data : List UInt8) (owner when_ : Int) (f : Bool) : createG T s up a data owner when_ f =
    if (mget T s).isSome = true then ([], 12, T) else if 60 ≤ T.length then ([], 16, T) else (s, 0, mput (mput T up (moreN a f)) s (newN data owner when_)) := rfl
theorem createF_at {T : TreeT} {s up last data : List UInt8} {a : NodeT} (owner when_ : Int) (h1 : checkF s = 0) (h2 : s ≠ [47]) (h3 : data.length ≤ 60) (h4 : upF s = (up, last)) (h5 : mget T up = some a) (h6 : a.owner = 0) :
    createF T s data owner when_ true = (if checkF (serialF s a.serial) ≠ 0 then ([], 10, T) else createG T (serialF s a.serial) up a data owner when_ true) ∧ createF T s data owner when_ false = createG T s up a data owner when_ false := by
  have h7 : ¬ 60 < data.length := by omega
  constructor
  · unfold createF
    rw [if_neg (by rw [h1]; decide), if_neg h2, if_neg h7, h4]
    simp [h5, h6]
  · unfold createF
    rw [if_neg (by rw [h1]; decide), if_neg h2, if_neg h7, h4]
    simp [h5, h6]
theorem createF_num {T : TreeT} {s up last data s2 : List UInt8} {a : NodeT} (owner when_ : Int) (h1 : checkF s = 0) (h2 : s ≠ [47]) (h3 : data.length ≤ 60) (h4 : upF s = (up, last)) (h5 : mget T up = some a) (h6 : a.owner = 0)
    (h7 : serialF s a.serial = s2) (h8 : checkF s2 = 0) (h9 : mget T s2 = none) : createF T s data owner when_ true = if 60 ≤ T.length then ([], 16, T) else (s2, 0, mput (mput T up (moreN a true)) s2 (newN data owner when_)) := by
  rw [(createF_at owner when_ h1 h2 h3 h4 h5 h6).1, h7, if_neg (by simp [h8]), createG_eq, h9, if_neg (by simp)]
theorem createF_new {T : TreeT} {s up last data : List UInt8} {a : NodeT} (owner when_ : Int) (h1 : checkF s = 0) (h2 : s ≠ [47]) (h3 : data.length ≤ 60) (h4 : upF s = (up, last)) (h5 : mget T up = some a) (h6 : a.owner = 0)
    (h9 : mget T s = none) : createF T s data owner when_ false = if 60 ≤ T.length then ([], 16, T) else (s, 0, mput (mput T up (moreN a false)) s (newN data owner when_)) := by
  rw [(createF_at owner when_ h1 h2 h3 h4 h5 h6).2, createG_eq, h9, if_neg (by simp)]
end

section
set_option linter.unusedVariables false
set_option linter.unusedSimpArgs false
def rN (k : Nat) : NodeT := ⟨[], 0, k, 0, 0, 0, k⟩
def qN (i : Nat) : NodeT := ⟨[], 0, 0, 0, (i : Int) + 1, (i : Int) + 1, 0⟩
def qT (k : Nat) : TreeT := ([47], rN k) :: (List.range k).map fun i => (numN i, qN i)
theorem qT_len (k : Nat) : (qT k).length = k + 1 := by simp [qT]
theorem qT_root (k : Nat) : mget (qT k) [47] = some (rN k) := by simp [qT, mget]
theorem qT_out (k : Nat) : [47] ∉ keys ((List.range k).map fun i => (numN i, qN i)) := by
  intro h
  simp only [keys, List.map_map, List.mem_map, Function.comp] at h
  obtain ⟨i, _, e⟩ := h
  exact num_root i e
theorem qT_none (k : Nat) (hk : k < 10 ^ 10) : mget (qT k) (numN k) = none := by
  rw [mget_none]
  intro h
  simp only [qT, keys, List.map_cons, List.mem_cons, List.map_map, List.mem_map, Function.comp, List.mem_range] at h
  rcases h with h | ⟨i, hi, e⟩
  · exact num_root k h
  · have := (num_inj (by omega) hk).1 e
    omega
theorem qT_put (k : Nat) (hk : k < 10 ^ 10) : mput (mput (qT k) [47] (rN (k + 1))) (numN k) (qN k) = qT (k + 1) := by
  have e1 : mput (qT k) [47] (rN (k + 1)) = ([47], rN (k + 1)) :: (List.range k).map fun i => (numN i, qN i) := mput_head (qT_out k)
  have e2 : mget (mput (qT k) [47] (rN (k + 1))) (numN k) = none := by
    rw [mget_mput, if_neg (num_root k), qT_none k hk]
  rw [mput_new e2, e1]
  simp [qT, List.range_succ]
theorem qT_new (k : Nat) (hk : k < 59) : createF (qT k) [47, 110] [] 0 ((k : Int) + 1) true = (numN k, 0, qT (k + 1)) := by
  rw [createF_num 0 _ check_n (by decide) (by decide) up_n (qT_root k) rfl (serial_num k (by omega)) (check_num k) (qT_none k (by omega)), if_neg (by rw [qT_len]; omega), ← qT_put k (by omega)]
  rfl
theorem qT_full (w : Int) : createF (qT 59) [47, 110] [] 0 w true = ([], 16, qT 59) := by
  rw [createF_num 0 _ check_n (by decide) (by decide) up_n (qT_root 59) rfl (serial_num 59 (by decide)) (check_num 59) (qT_none 59 (by decide)), if_pos (by rw [qT_len]; decide)]

/-! ### the example -/
def hA : List UInt8 := [47, 97]
def hT1 : TreeT := [([47], ⟨[], 0, 1, 0, 0, 0, 0⟩), (hA, ⟨[], 0, 0, 0, 1, 1, 0⟩)]
def hK (k : Nat) : List UInt8 := hA ++ 47 :: numP k
def hT2 : TreeT := [([47], ⟨[], 0, 1, 0, 0, 0, 0⟩), (hA, ⟨[], 0, 1, 0, 1, 1, 1⟩), (hK 0, ⟨[], 0, 0, 0, 2, 2, 0⟩)]
def hT3 : TreeT := [([47], ⟨[], 0, 1, 0, 0, 0, 0⟩), (hA, ⟨[], 0, 2, 0, 1, 1, 2⟩), (hK 0, ⟨[], 0, 0, 0, 2, 2, 0⟩), (hK 1, ⟨[], 0, 0, 0, 3, 3, 0⟩)]
theorem serial_h (k : Nat) (hk : k < 10 ^ 10) : serialF [47, 97, 47, 110] k = hK k := by
  have := (pad_fix 10 k (by decide) hk).2
  show [47, 97, 47, 110] ++ Lib.repeatL [48] (10 - (Lib.decDigits k).length) ++ Lib.decDigits k = _
  rw [List.append_assoc, this]
  rfl
theorem check_h (k : Nat) : checkF (hK k) = 0 := check_cat [97] (numP k) (by decide) (numP_part k) (by simp [numP, fixD_length])
theorem up_h : upF [47, 97, 47, 110] = (hA, [110]) := upF_cat [47, 97] [110] (by decide) (by decide)
theorem up_ha : upF hA = ([47], [97]) := upF_cat [] [97] (by decide) (by decide)
theorem hK_ne (k : Nat) : hK k ≠ [47] ∧ hK k ≠ hA := by
  refine ⟨by simp [hK, hA], by simp [hK, hA]⟩
theorem hK_inj {j k : Nat} (hj : j < 10 ^ 10) (hk : k < 10 ^ 10) : hK j = hK k ↔ j = k := by
  unfold hK numP
  rw [List.append_cancel_left_eq, List.cons_inj_right, List.cons_inj_right, fixD_inj 10 j k hj hk]
theorem ex_one : createF (qT 0) [47, 97] [] 0 1 false = (hA, 0, hT1) := by
  have h : checkF [47, 97] = 0 := by decide
  have u : upF [47, 97] = ([47], [97]) := up_ha
  rw [createF_new 0 1 h (by decide) (by decide) u (qT_root 0) rfl (by decide), if_neg (by decide)]
  decide
theorem ex_two : createF hT1 [47, 97, 47, 110] [] 0 2 true = (hK 0, 0, hT2) := by
  have h : checkF [47, 97, 47, 110] = 0 := by decide
  have m1 : mget hT1 hA = some ⟨[], 0, 0, 0, 1, 1, 0⟩ := by decide
  have n1 := hK_ne 0
  have m2 : mget hT1 (hK 0) = none := by
    rw [mget_none]
    simp [hT1, n1]
  rw [createF_num 0 2 h (by decide) (by decide) up_h m1 rfl (serial_h 0 (by decide)) (check_h 0) m2, if_neg (by decide)]
  rw [mput_new (by rw [mget_mput, if_neg n1.2, m2])]
  rfl
theorem ex_three : createF hT2 [47, 97, 47, 110] [] 0 3 true = (hK 1, 0, hT3) := by
  have h : checkF [47, 97, 47, 110] = 0 := by decide
  have m1 : mget hT2 hA = some ⟨[], 0, 1, 0, 1, 1, 1⟩ := by rfl
  have n1 := hK_ne 1
  have n0 := hK_ne 0
  have n2 : hK 1 ≠ hK 0 := fun e => by have := (hK_inj (by decide) (by decide)).1 e; omega
  have m2 : mget hT2 (hK 1) = none := by
    rw [mget_none]
    simp [hT2, n1, n2]
  have e1 : mput hT2 hA ⟨[], 0, 2, 0, 1, 1, 2⟩ = [([47], ⟨[], 0, 1, 0, 0, 0, 0⟩), (hA, ⟨[], 0, 2, 0, 1, 1, 2⟩), (hK 0, ⟨[], 0, 0, 0, 2, 2, 0⟩)] := by
    unfold mput
    rw [m1]
    simp [hT2, n0]
    decide
  rw [createF_num 0 3 h (by decide) (by decide) up_h m1 rfl (serial_h 1 (by decide)) (check_h 1) m2, if_neg (by decide)]
  rw [mput_new (by rw [mget_mput, if_neg n1.2, m2])]
  show (_, _, mput hT2 hA ⟨[], 0, 2, 0, 1, 1, 2⟩ ++ _) = _
  rw [e1]
  rfl
end

section
set_option linter.unusedVariables false
set_option linter.unusedSimpArgs false
theorem up_root : upF [47] = ([], []) := by unfold upF; rw [if_pos (.inl rfl)]
theorem mdel_head {κ α : Type} [DecidableEq κ] {m : List (κ × α)} {k k' : κ} {v : α} (h : k' ≠ k) : mdel ((k', v) :: m) k = (k', v) :: mdel m k := by
  simp [mdel, h]

structure SerT (T : TreeT) (b k : Nat) : Prop where
  form : ∃ l : TreeT, T = ([47], ⟨[], 0, b, 0, 0, 0, k⟩) :: l ∧ (∀ p ∈ l, ∃ i < k, p = (numN i, qN i)) ∧ l.length ≤ k
theorem ser_start : SerT [([47], zN)] 0 0 := ⟨[], rfl, by simp, by simp⟩
theorem SerT.out {T : TreeT} {b k : Nat} (l : TreeT) (h : ∀ p ∈ l, ∃ i < k, p = (numN i, qN i)) : [47] ∉ keys l := by
  intro hm
  obtain ⟨p, hp, e⟩ := List.mem_map.1 hm
  obtain ⟨i, _, rfl⟩ := h p hp
  exact num_root i e
theorem SerT.root {T : TreeT} {b k : Nat} (h : SerT T b k) : mget T [47] = some ⟨[], 0, b, 0, 0, 0, k⟩ := by
  obtain ⟨l, rfl, _, _⟩ := h
  simp [mget]
theorem SerT.fresh {T : TreeT} {b k : Nat} (h : SerT T b k) (hk : k < 10 ^ 10) : mget T (numN k) = none := by
  obtain ⟨l, rfl, h1, _⟩ := h
  rw [mget_none]
  intro hm
  simp only [keys, List.map_cons, List.mem_cons] at hm
  rcases hm with hm | hm
  · exact num_root k hm
  · obtain ⟨p, hp, e⟩ := List.mem_map.1 hm
    obtain ⟨i, hi, rfl⟩ := h1 p hp
    have := (num_inj (by omega) hk).1 e
    omega
theorem SerT.create {T : TreeT} {b k : Nat} (h : SerT T b k) (hk : k < 50) : ∃ T', createF T [47, 110] [] 0 ((k : Int) + 1) true = (numN k, 0, T') ∧ SerT T' (b + 1) (k + 1) ∧ mget T' (numN k) = some (qN k) := by
  have h1 := h.root
  have h2 := h.fresh (by omega)
  obtain ⟨l, rfl, h3, h4⟩ := h
  refine ⟨_, ?_, ⟨l ++ [(numN k, qN k)], rfl, ?_, by simp; omega⟩, ?_⟩
  · rw [createF_num 0 _ check_n (by decide) (by decide) up_n h1 rfl (serial_num k (by omega)) (check_num k) h2, if_neg (by simp; omega), mput_head (SerT.out (T := []) (b := 0) (k := k) l h3), mput_new]
    · simp [moreN, newN, qN]
    · rw [mget_none]
      rw [mget_none] at h2
      simpa using h2
  · intro p hp
    rcases List.mem_append.1 hp with hp | hp
    · obtain ⟨i, hi, e⟩ := h3 p hp
      exact ⟨i, by omega, e⟩
    · exact ⟨k, by omega, by simpa using hp⟩
  · rw [mget_none] at h2
    have h5 : mget l (numN k) = none := by
      rw [mget_none]
      intro hm
      exact h2 (by simp only [keys, List.map_cons, List.mem_cons]; exact .inr hm)
    have h6 : ¬ [47] = numN k := fun e => num_root k e.symm
    simp only [mget, Option.map_eq_none_iff] at h5
    simp [mget, h6, h5]

/-! ### Delete -/
def kidL (T : TreeT) (s : List UInt8) : List (List UInt8) := (T.filter fun p => decide ((upF p.1).1 = s)).map fun p => (upF p.1).2
def lessN (a : NodeT) : NodeT := ⟨a.data, a.version, a.below + 1, a.owner, a.made, a.set, a.serial⟩
def deleteF (T : TreeT) (s : List UInt8) (v : Int) : Int × TreeT :=
  if (atF T s v).2 ≠ 0 then ((atF T s v).2, T) else if s = [47] then (1, T) else if kidL T s ≠ [] then (13, T) else
  (0, mdel (mput T (upF s).1 (lessN ((mget T (upF s).1).getD zN))) s)
theorem SerT.delete {T : TreeT} {b k : Nat} (h : SerT T b (k + 1)) (hg : mget T (numN k) = some (qN k)) : ∃ T', deleteF T (numN k) 0 = (0, T') ∧ SerT T' (b + 1) (k + 1) := by
  have h1 := h.root
  have ha : atF T (numN k) 0 = (qN k, 0) := by
    have : getF T (numN k) = (qN k, 0) := by
      unfold getF
      rw [if_pos (check_num k), hg]
    unfold atF
    rw [this, if_neg (by simp [qN])]
  obtain ⟨l, rfl, h3, h4⟩ := h
  have hkid : kidL (([47], ⟨[], 0, (b : Int), 0, 0, 0, ((k + 1 : Nat) : Int)⟩) :: l) (numN k) = [] := by
    unfold kidL
    rw [List.map_eq_nil_iff, List.filter_eq_nil_iff]
    intro p hp
    rcases List.mem_cons.1 hp with rfl | hp
    · rw [up_root]
      simp [numN]
    · obtain ⟨i, _, rfl⟩ := h3 p hp
      rw [up_num]
      simp [numN, numP]
  refine ⟨_, ?_, ⟨mdel l (numN k), rfl, ?_, ?_⟩⟩
  · unfold deleteF
    rw [ha, if_neg (by simp), if_neg (num_root k), if_neg (by rw [hkid]; simp), up_num, h1]
    simp only [Option.getD_some]
    rw [mput_head (SerT.out (T := []) (b := 0) (k := k + 1) l h3), mdel_head (fun e => num_root k e.symm)]
    simp [lessN]
  · intro p hp
    exact h3 p (List.mem_filter.1 hp).1
  · exact Nat.le_trans (List.length_filter_le _ _) h4
end

section
set_option linter.unusedVariables false
set_option linter.unusedSimpArgs false
open Go.RowKit

theorem slStr : Sl Tryz.prog 25 9 1 16 (.string ⟨#[]⟩) := .mk' Tryz.underlying25 (by kernel_rfl) rfl (by decide)

/-- the last parts of those below s -/
def kidsF (T : TreeT) (s : List UInt8) : List (List UInt8) := if (getF T s).2 = 0 then sortB (kidL T s) else []
theorem kidL_nil (s : List UInt8) : kidL [] s = [] := rfl
theorem kidL_cons (p : List UInt8 × NodeT) (T : TreeT) (s : List UInt8) : kidL (p :: T) s = if (upF p.1).1 = s then (upF p.1).2 :: kidL T s else kidL T s := by
  unfold kidL
  by_cases h : (upF p.1).1 = s
  · rw [List.filter_cons_of_pos (by simpa using h), if_pos h, List.map_cons]
  · rw [List.filter_cons_of_neg (by simpa using h), if_neg h]
theorem kidL_length (T : TreeT) (s : List UInt8) : (kidL T s).length ≤ T.length := by
  unfold kidL
  rw [List.length_map]
  exact List.length_filter_le _ _
theorem kidL_perm {T T' : TreeT} (h : T.Perm T') (s : List UInt8) : (kidL T s).Perm (kidL T' s) := (h.filter _).map _
theorem mdel_none {κ α : Type} [DecidableEq κ] {m : List (κ × α)} {k : κ} (h : k ∉ keys m) : mdel m k = m := by
  unfold mdel
  rw [List.filter_eq_self]
  intro q hq
  simp only [ne_eq, decide_eq_true_eq]
  exact fun e => h (List.mem_map.2 ⟨q, hq, e⟩)
theorem mdel_perm {κ α : Type} [DecidableEq κ] : ∀ {m : List (κ × α)} {k : κ} {v : α}, (keys m).Nodup → (k, v) ∈ m → m.Perm ((k, v) :: mdel m k)
  | [], _, _, _, h => by cases h
  | p :: m, k, v, hn, h => by
    simp only [keys, List.map_cons, List.nodup_cons] at hn
    by_cases hp : p.1 = k
    · have e : mdel (p :: m) k = m := by
        have h1 : mdel (p :: m) k = mdel m k := by simp [mdel, hp]
        rw [h1, mdel_none]
        intro h2
        exact hn.1 (by rw [hp]; exact h2)
      rw [e]
      rcases List.mem_cons.1 h with rfl | h'
      · exact List.Perm.refl _
      · exact absurd (List.mem_map.2 ⟨_, h', rfl⟩) (hp ▸ hn.1)
    · rcases List.mem_cons.1 h with rfl | h'
      · exact absurd rfl hp
      · rw [mdel_head hp]
        exact ((mdel_perm hn.2 h').cons p).trans (List.Perm.swap _ _ _)
theorem sortB_eq {l m : List (List UInt8)} (h : l.Perm m) : sortB l = sortB m := by
  have htr : ∀ a b c : List UInt8, decide (a ≤ b) = true → decide (b ≤ c) = true → decide (a ≤ c) = true := by
    intro a b c h1 h2
    simp only [decide_eq_true_eq] at *
    exact List.le_trans h1 h2
  have hto : ∀ a b : List UInt8, (decide (a ≤ b) || decide (b ≤ a)) = true := by
    intro a b
    simp only [Bool.or_eq_true, decide_eq_true_eq]
    exact List.le_total a b
  refine List.Perm.eq_of_pairwise (le := fun a b => decide (a ≤ b) = true) ?_ (List.pairwise_mergeSort htr hto l) (List.pairwise_mergeSort htr hto m) ((sortB_perm l).trans (h.trans (sortB_perm m).symm))
  intro a b _ _ h1 h2
  simp only [decide_eq_true_eq] at h1 h2
  exact List.le_antisymm h1 h2

def PathsOk (T : TreeT) : Prop := ∀ p ∈ T, p.1.length ≤ 1000

section
variable {g w : World} {L : List Asn} {b mb x : Nat} {T : TreeT}
set_option maxRecDepth 100000 in
set_option maxHeartbeats 4000000 in
theorem kids_tree (S0 : Sat g w (treeA b T :: L)) (hG : GL w) (hP : PathsOk T) (hT : T.length ≤ 1000000) (s : List UInt8) (hs : s.length ≤ 9223372036854775807) :
    Calls Tryz.prog 87 #[ptr b, .string (S s)] w fun e w' => ∃ v, e = .returned (.tuple #[v, .int .i64 (getF T s).2]) ∧ Sat g w' (rowA 9 1 v (kidsF T s).length (Ss (kidsF T s)) :: treeA b T :: L) := by
  have hget := get_tree S0 hG s hs
  have HF : Hid (kidsF T s = if (getF T s).2 = 0 then sortB (kidL T s) else []) := rfl
  generalize kidsF T s = KF at *
  generalize getF T s = G at *
  obtain ⟨n, e0⟩ := G
  simp only at hget HF
  have hnd := S0.treeNodup
  have HP := hide hP
  clear hP
  go_enter Tryz.func87, Tryz.ntmps87
  go_wp2_with fail
  refine hget.mono ?_
  rintro e w2 ⟨rfl, S2⟩
  clear hget S0 hG
  go_upto_region 2 with fail
  have S3 := (S2.box (nodC n) 46 rfl).drop
  generalize w2.alloc (.cells (nodC n) 46) = w3 at *
  generalize w2.heap.size = xb at *
  clear S2
  by_cases h0 : e0 = 0
  · subst h0
    have e : KF = sortB (kidL T s) := by rw [HF.out, if_pos rfl]
    subst e
    clear HF
    obtain ⟨mb, S4⟩ := S3.treeOpen
    clear S3
    have c0 := S4.cell 0 _ rfl
    have S5 := S4.p1
    go_wp2_with (refine wpList_srange rfl _ _ rfl Tryz.underlying112 S5 rfl ?_; intro w4 S6)
    generalize w3.heap.size = ri at *
    clear S4 S5 c0
    go_simp
    go_loopw [8] (fun v wr => ∃ (xs : List (List UInt8)) (lf : TreeT), (xs ++ kidL lf s).Perm (kidL T s) ∧ Sat g wr (rangeA kS nodV mb ri T lf :: rowA 9 1 v xs.length (Ss xs) :: cellsA b 114 #[.map (some mb)] :: L)) (fun _ wr => wr.rangeLeft mb ri)
    case atStart => exact ⟨[], T, List.Perm.refl _, (S6.p1.nilRow 9 1).p2⟩
    case round =>
      obtain ⟨xs, lf, hperm, S7⟩ := hrel
      clear S6
      have hsub := S7.rangeSub
      have hnl : (keys lf).Nodup := hnd.sublist (hsub.map _)
      have hlen : xs.length ≤ 1000000 := by
        have h1 := hperm.length_eq
        rw [List.length_append] at h1
        have := kidL_length T s
        omega
      have hml := S7.rangeLeft
      have HQ := hide hperm
      clear hperm
      go_wp2_with (at_next; refine wpList_snext rfl _ rfl kTS S7 rfl ?_ ?_)
      · intro hl0
        subst hl0
        have S8 := S7.rangeEnd.p1
        clear S7
        go_wp2_with fail
        refine (sort_strs S8 hlen).mono ?_
        rintro e w5 ⟨rfl, S9⟩
        have e1 : sortB xs = sortB (kidL T s) := sortB_eq (by have := HQ.out; rwa [kidL_nil, List.append_nil] at this)
        have e2 : xs.length = (sortB (kidL T s)).length := by rw [← e1, sortB_length]
        rw [e1, e2] at S9
        have HS := hide (S9.p2.p2.p1.treeShut.p1)
        clear S8 S9 e1 e2
        go_wp2_with fail
        go_ret2
        exact ⟨_, rfl, HS.out⟩
      · intro k nv w5 hm1 hm2 S8 hlt hen
        have hkl : k.length ≤ 1000 := HP.out _ hm2
        have hpl := mdel_perm hnl hm1
        have hkp := kidL_perm hpl s
        rw [kidL_cons] at hkp
        have HKP := hide hkp
        have HML := hide hml
        have HLT := hide hlt
        clear S7 hkp hpl hml hlt hm1 hm2 hsub hnl
        go_wp2_with fail
        refine (up_path w5 k (by omega)).mono ?_
        rintro e w6 ⟨rfl, hk6⟩
        have S9 := S8.keep hk6
        clear S8 hk6 hen
        obtain ⟨A, c, rfl, -⟩ := S9.p1.row.form
        by_cases hup : (upF k).1 = s
        · have hub : ((upF k).1 == s) = true := by simpa using hup
          have hkp := HKP.out
          rw [if_pos hup] at hkp
          have HKP2 := hide hkp
          clear HKP hkp
          generalize (upF k).1 = up at *
          generalize (upF k).2 = last at *
          clear hup
          go_wp2_with (at_builtin; refine wpList_sapp slStr rfl (.tmp 38) (.tmp 40) rfl (g := g) (S := (S9.box #[.string (S last)] 9 rfl).p2) rfl (Src.block (heap_alloc_new _ _) 1 1 rfl) rfl (by simp [Value.oneCell']) (by unfold maxLen; omega) (by omega) ?_; intro A5 c5 w7 S10)
          go_roundw
          case rel =>
            refine ⟨xs ++ [last], mdel lf k, ?_, ?_⟩
            · rw [List.append_assoc]
              exact (HKP2.out.symm.append_left xs).trans HQ.out
            · have := S10.p1.drop.p1
              simpa [Ss] using this
          case measure => rw [S10.p2.rangeLeft, HML.out]; exact HLT.out
        · have hub : ((upF k).1 == s) = false := by simpa using hup
          have hkp := HKP.out
          rw [if_neg hup] at hkp
          have HKP2 := hide hkp
          clear HKP hkp
          go_wp2_with fail
          go_roundw
          case rel => exact ⟨xs, mdel lf k, (HKP2.out.symm.append_left xs).trans HQ.out, S9⟩
          case measure => rw [S9.rangeLeft, HML.out]; exact HLT.out
  · have h0b : (e0 != 0) = true := by simpa using h0
    have e : KF = [] := by rw [HF.out, if_neg h0]
    subst e
    clear HF
    go_wp2_with fail
    go_ret2
    exact ⟨_, rfl, S3.nilRow _ _⟩
end
end

section
set_option linter.unusedVariables false
set_option linter.unusedSimpArgs false
open Go.RowKit Go.Maps Go.Sort Go.Shelf Go.MapKept

theorem owns_tree {α : Type} {ev : α → Value} {w : World} {b : Nat} {m : List (List UInt8 × α)} (h : MapOf kS ev w b m) (hk : ∀ k ∈ keys m, k.length ≤ maxLen) (hl : m.length ≤ maxLen) :
    ∃ D0 : DataW Unit, w.ownsMap Tryz.prog 9 (fun _ => some (.nil, [])) b m.length D0 ∧ (strKeys D0).Perm (keys m) ∧ Maps.size D0 = m.length := by
  obtain ⟨es, clock, hb, hst, he⟩ := h
  have hlen : es.toList.length = m.length := by simpa using congrArg List.length he
  have hkeys : es.toList.map (·.key) = m.map fun p => kS p.1 := by
    have := congrArg (List.map (·.1)) he
    simpa [List.map_map, Function.comp_def] using this
  have hrd : ∀ x ∈ es.toList, ∃ k : List UInt8, x.key = kS k ∧ WideElems.rd Tryz.prog 9 (fun _ => some ((.nil : DataW Unit), [])) x = some (.string k, .nil) := by
    intro x hx
    have h1 : x.key ∈ m.map fun p => kS p.1 := by rw [← hkeys]; exact List.mem_map.2 ⟨x, hx, rfl⟩
    obtain ⟨p, hp, e⟩ := List.mem_map.1 h1
    refine ⟨p.1, e.symm, ?_⟩
    have hpl := hk p.1 (List.mem_map.2 ⟨p, hp, rfl⟩)
    have : keyOf Tryz.prog 9 (kS p.1) = some (.string p.1) := by
      simp [keyOf, Tryz.underlying9, mapKey, hpl]
    unfold WideElems.rd
    rw [← e, this]
    rfl
  refine ⟨_, ⟨es, clock, hb, ⟨by simp at hlen; omega, hst, fun x hx => by obtain ⟨k, _, h⟩ := hrd x hx; exact ⟨_, h⟩⟩, by simp at hlen; omega, rfl⟩, ?_, ?_⟩
  · refine ((WideShapes.sorted_perm _).map _).trans ?_
    rw [List.map_map]
    have : es.toList.map ((fun p : Lit × DataW Unit => Go.strOf p.1) ∘ WideElems.rg Tryz.prog 9 (fun _ => some (.nil, []))) = keys m := by
      have h2 : keys m = (es.toList.map (·.key)).map (fun v => match v with | .string s => s.data.toList | _ => []) := by
        rw [hkeys, List.map_map]
        apply List.map_congr_left
        intro p _
        simp [Function.comp]
      rw [h2, List.map_map]
      apply List.map_congr_left
      intro x hx
      obtain ⟨k, e, h⟩ := hrd x hx
      simp only [Function.comp, WideElems.rg, h, Option.getD_some, e]
      simp [Go.strOf]
    rw [this]
  · show ((es.toList.map (WideElems.rg Tryz.prog 9 _)).foldr DataW.insert []).length = _
    rw [length_sorted]
    simpa using hlen

/-- slices.Sort's two contracts here. -/
theorem sortsT (m : Nat) : AnyZ.SortsIn Tryz.prog Tryz.sortedT_ren Fence.wide m :=
  ⟨fun blk off cap ss W hH hblk hsz => callsIn_wide.2 (AnyM.slices_Sort_string Tryz.sortT blk off cap ss W hH hblk hsz),
   fun p cap W => callsIn_wide.2 (AnyM.slices_Sort_string_none Tryz.sortT p cap W)⟩

theorem Sat.rowNew {g w w' : World} {L : List Asn} {e : TypeId} {size n : Nat} {v : Value} {xs : List Value} (S : Sat g w L) (hk : Keeps (fun _ => False) w w') (hr : w'.ownsRow w.heap.size e size v n xs) : Sat g w' (rowA e size v n xs :: L) := by
  obtain ⟨hl, hr⟩ := hr
  rcases hr with ⟨rfl, rfl⟩ | ⟨b, cap, cur, rfl, hb, hg, q1, q2, q3, q4⟩
  · have := (S.keep hk).nilRow e size
    have h0 : xs = [] := by simpa using hl
    subst h0
    exact this
  · exact S.new hk (hone b (.cells cur e (0, 0)) true) ⟨hl, .inr ⟨b, cap, cur, rfl, q1, q2, q3, q4, rfl⟩⟩ (hone_mem hg) (fun k hk => by unfold hone; rw [if_neg (by omega)])

def pathsF (T : TreeT) : List (List UInt8) := sortB (keys T)
theorem pathsF_length (T : TreeT) : (pathsF T).length = T.length := by unfold pathsF; rw [sortB_length]; simp

set_option maxHeartbeats 1000000 in
theorem paths_row (w : World) (t mb : Nat) (m : TreeT) (c0 : w.cell? ⟨t, 0, none⟩ = some (.map (some mb))) (h : MapOf kS nodV w mb m) (hk : PathsOk m) (hl : m.length ≤ 1000000) :
    Calls Tryz.prog 85 #[ptr t] w fun e w' => ∃ v, e = .returned v ∧ w'.ownsRow w.heap.size 9 1 v m.length (Ss (pathsF m)) ∧ Keeps (fun _ => False) w w' := by
  obtain ⟨D0, hown, hperm, hsize⟩ := owns_tree h (fun k hm => by
    obtain ⟨p, hp, rfl⟩ := List.mem_map.1 hm
    have := hk p hp
    unfold maxLen
    omega) (by unfold maxLen; omega)
  have hmax : Maps.size D0 ≤ maxLen := by unfold maxLen; omega
  have hbytes : Maps.size D0 * 16 ≤ 140737488355328 := by omega
  have hbl := hown.lt
  refine (callsIn_wide (n := 6)).1 ?_
  have hseq : SeqGives Fence.wide 2 Tryz.prog 124 #[.pointer (some ⟨w.heap.size, 0, none⟩)] encStr (fun ss => ss.Perm (strKeys D0)) (Maps.size D0) (w.alloc (.cells #[.map (some mb)] 112)) :=
    AnyZ.keys_gives (ρ := Tryz.keysT_ren) { Tryz.keysT with } Fence.wide _ trivial rfl (by omega) w.heap.size mb m.length D0 _ (by simp) (by simp) (by
      obtain ⟨es, clock, hb, Ft, hs, hD⟩ := hown
      exact ⟨es, clock, (Below.heap_alloc _ _ mb hbl).trans hb, Ft, hs, hD⟩)
  have cK : ∀ mb W, CallsIn Fence.wide 5 Tryz.prog 103 #[.map mb] W fun e w' => e = .returned (.func (.func 124) #[] #[.pointer (some ⟨W.heap.size, 0, none⟩)]) ∧ w' = W.alloc (.cells #[.map mb] 112) := fun mb W => AnyZ.keys_in Tryz.keysT Fence.wide 5 trivial rfl mb W
  have cS := AnyZ.sorted_in Tryz.sortedT Fence.wide 5 trivial trivial trivial trivial rfl (by omega) (sortsT _) (enters_of Tryz.func105 (by kernel_rfl) rfl) 124 #[.pointer (some ⟨w.heap.size, 0, none⟩)] trivial (enters_of Tryz.func124 (by kernel_rfl) rfl) _ _ hmax hbytes _ hseq
  change CallsIn _ _ Tryz.prog 102 _ _ _ at cS
  have hfK : Fence.wide.fn 103 := trivial
  have hfS : Fence.wide.fn 102 := trivial
  refine callsIn_of_wp Tryz.func85 rfl trivial ?_ rfl
  simp only [Tryz.ntmps85, List.size_toArray, List.length_cons, List.length_nil, Nat.reduceAdd, Nat.reduceSub, Array.replicate_succ, Array.replicate_zero, List.push_toArray, List.append_toArray, List.nil_append, List.cons_append]
  clear hown h hk
  gi_wp2_with (first
    | (gi_at_call 103; refine (cK _ _).mono ?_; rintro e w' ⟨rfl, rfl⟩)
    | (gi_at_call 102; refine cS.mono ?_; rintro e w' ⟨v, ss, rfl, hS, hrow, hnil, hb⟩))
  go_ret
  have hS2 : ss.mergeSort (fun x y => decide (x ≤ y)) = pathsF m := mergeSort_of_perm (hS.trans hperm)
  have hlen : ss.length = m.length := by
    have := (hS.trans hperm).length_eq
    simpa using this
  rw [hS2, hlen] at hrow
  refine ⟨v, rfl, ownsRow_base_a hrow (by simp), ?_⟩
  have hb2 : Below w.heap.size w w' := ((Below.refl _ w).alloc (Nat.le_refl _) _).trans (hb.mono (by simp))
  exact (Keeps.of_below hb2).mono fun k hk h => by omega

section
variable {g w : World} {L : List Asn} {b mb x : Nat} {T : TreeT}
theorem paths_tree (S0 : Sat g w (treeA b T :: L)) (hP : PathsOk T) (hT : T.length ≤ 1000000) :
    Calls Tryz.prog 85 #[ptr b] w fun e w' => ∃ v, e = .returned v ∧ Sat g w' (rowA 9 1 v T.length (Ss (pathsF T)) :: treeA b T :: L) := by
  obtain ⟨mb, S1⟩ := S0.treeOpen
  refine (paths_row w b mb T (S1.cell 0 _ rfl) S1.p1.mapOf hP hT).mono ?_
  rintro e w' ⟨v, rfl, hr, hk⟩
  exact ⟨v, rfl, S0.rowNew hk hr⟩

def ownedF (T : TreeT) (o : Int) : List (List UInt8) := (pathsF T).filter fun s => decide (((mget T s).getD zN).owner = o ∧ o ≠ 0)
end
end

section
set_option linter.unusedVariables false
set_option linter.unusedSimpArgs false
open Go.RowKit

theorem GL.at {g w : World} {L : List Asn} (hG : GL g) (S0 : Sat g w L) (hm : oldA g ∈ L) : GL w := hG.keep (S0.keepsOf hm) (fun h => by
  obtain ⟨m, hm⟩ := hG
  have := World.block_lt_of_cell? g _ hm
  exact Nat.lt_irrefl _ (Nat.lt_of_lt_of_le this h))

/-- counters that stay small -/
def NodesOk (T : TreeT) : Prop := ∀ p ∈ T, 0 ≤ p.2.serial ∧ p.2.serial < 100 ∧ 0 ≤ p.2.below ∧ p.2.below ≤ 1000000
theorem create_eq {g w : World} {L : List Asn} {b : Nat} {T : TreeT} (S0 : Sat g w (treeA b T :: L)) (hG : GL w) (hN : NodesOk T) (s data : List UInt8) (owner when_ : Int) (serial : Bool) {x : List UInt8} {r : Int} {T' : TreeT}
    (h : createF T s data owner when_ serial = (x, r, T')) (hs : s.length ≤ 140737488350000) (hd : data.length ≤ 140737488350000) (hT : T.length ≤ 1000000) :
    Calls Tryz.prog 108 #[ptr b, .string (S s), .string (S data), .int .i64 owner, .int .i64 when_, .bool serial] w fun e w' => e = .returned (.tuple #[.string (S x), .int .i64 r]) ∧ Sat g w' (treeA b T' :: L) := by
  have := create_tree S0 hG s data owner when_ serial hs hd hT (fun a ha => hN _ (mget_mem ha))
  rw [h] at this
  exact this

end

section
set_option linter.unusedVariables false
set_option linter.unusedSimpArgs false
open Go.RowKit

section
variable {g w : World} {L : List Asn} {b mb x : Nat} {T : TreeT}
theorem at_get {T : TreeT} {s : List UInt8} {v : Int} (h : (atF T s v).2 = 0) : (getF T s).2 = 0 := by
  unfold atF at h
  split at h
  · simp at h
  · exact h
theorem look_get (S0 : Sat g w (mapA kS nodV mb T :: L)) (k : List UInt8) :
    (Instr.lookup 112 (.map (some mb)) (.string (S k)) false).run Tryz.prog w = .ok (nodV ((mget T k).getD zN)) w := by
  cases h : mget T k with
  | none => exact look_non S0 h false
  | some n => exact look_node S0 h false
set_option maxRecDepth 100000 in
set_option maxHeartbeats 4000000 in
theorem delete_tree (S0 : Sat g w (treeA b T :: L)) (hG : GL g) (hm : oldA g ∈ L) (hP : PathsOk T) (hT : T.length ≤ 1000000) (s : List UInt8) (v : Int) (hs : s.length ≤ 140737488350000)
    (hN : ∀ n, mget T (upF s).1 = some n → 0 ≤ n.below ∧ n.below ≤ 1000000) :
    Calls Tryz.prog 76 #[ptr b, .string (S s), .int .i64 v] w fun e w' => e = .returned (.int .i64 (deleteF T s v).1) ∧ Sat g w' (treeA b (deleteF T s v).2 :: L) := by
  have HR : Hid (∀ r, deleteF T s v = r → ∀ w', Sat g w' (treeA b r.2 :: L) → Ending.returned (.int .i64 r.1) = Ending.returned (.int .i64 (deleteF T s v).1) ∧ Sat g w' (treeA b (deleteF T s v).2 :: L)) :=
    hide fun r h w' S' => by subst h; exact ⟨rfl, S'⟩
  have HF : Hid (deleteF T s v = if (atF T s v).2 ≠ 0 then ((atF T s v).2, T) else if s = [47] then (1, T) else if kidL T s ≠ [] then (13, T) else
    (0, mdel (mput T (upF s).1 (lessN ((mget T (upF s).1).getD zN))) s)) := rfl
  have hat := at_tree S0 (hG.at S0 (by simp [hm])) s v (by omega)
  have HAG : Hid ((atF T s v).2 = 0 → (getF T s).2 = 0) := hide at_get
  have HKF : Hid (kidsF T s = if (getF T s).2 = 0 then sortB (kidL T s) else []) := rfl
  have hn1 : 0 ≤ ((mget T (upF s).1).getD zN).below ∧ ((mget T (upF s).1).getD zN).below ≤ 1000000 := by
    cases h : mget T (upF s).1 with
    | none => exact ⟨by decide, by decide⟩
    | some n => exact hN n h
  have HKD : Hid (∀ {w : World} {L' : List Asn}, oldA g ∈ L' → Sat g w (treeA b T :: L') → Calls Tryz.prog 87 #[ptr b, .string (S s)] w fun e w' => ∃ v, e = .returned (.tuple #[v, .int .i64 (getF T s).2]) ∧ Sat g w' (rowA 9 1 v (kidsF T s).length (Ss (kidsF T s)) :: treeA b T :: L')) :=
    hide fun hm S' => kids_tree S' (hG.at S' (by simp [hm])) hP hT s (by omega)
  have HLK : Hid (∀ {w : World} {mb : Nat} {L : List Asn}, Sat g w (mapA kS nodV mb T :: L) → (Instr.lookup 112 (.map (some mb)) (.string (S (upF s).1)) false).run Tryz.prog w = .ok (nodV ((mget T (upF s).1).getD zN)) w) := hide fun S' => look_get S' _
  generalize deleteF T s v = R at *
  generalize atF T s v = A at *
  generalize (mget T (upF s).1).getD zN = n1 at *
  obtain ⟨n, e0⟩ := A
  simp only at hat HF HAG
  clear hN hP
  go_enter Tryz.func76, Tryz.ntmps76
  go_wp2_with fail
  refine hat.mono ?_
  rintro e w2 ⟨rfl, S2⟩
  clear hat S0 hG
  go_upto_region 2 with fail
  have S3 := (S2.box (nodC n) 46 rfl).drop
  generalize w2.alloc (.cells (nodC n) 46) = w3 at *
  generalize w2.heap.size = xb at *
  clear S2
  by_cases h0 : e0 = 0
  · subst h0
    have hg0 := HAG.out rfl
    by_cases h47 : s = [47]
    · have h47b : (s == [47]) = true := by simpa using h47
      have e : R = (1, T) := by rw [HF.out, if_neg (by simp), if_pos h47]
      have HE := hide e
      clear e HF h47 hg0
      go_wp2_with fail
      go_ret
      exact HR.out (1, T) HE.out _ S3
    · have h47b : (s == [47]) = false := by simpa using h47
      have HF2 : Hid (R = if kidL T s ≠ [] then (13, T) else (0, mdel (mput T (upF s).1 (lessN n1)) s)) := hide (by rw [HF.out, if_neg (by simp), if_neg h47])
      have hkd := HKD.out hm S3
      have hkf : kidsF T s = sortB (kidL T s) := by rw [HKF.out, if_pos hg0]
      have hkl : (sortB (kidL T s)).length = (kidL T s).length := sortB_length _
      rw [hkf, hg0] at hkd
      clear HF HKF HAG HKD hkf h47 hg0
      generalize Ss (sortB (kidL T s)) = ks at *
      generalize (sortB (kidL T s)).length = kn at *
      go_wp2_with fail
      refine hkd.mono ?_
      rintro e w4 ⟨v4, rfl, S4⟩
      clear hkd S3
      obtain ⟨A, c, rfl, -⟩ := S4.row.form
      by_cases hk : kidL T s = []
      · have e : R = (0, mdel (mput T (upF s).1 (lessN n1)) s) := by rw [HF2.out, if_neg (by simp [hk])]
        have HE := hide e
        rw [hk] at hkl
        simp only [List.length_nil] at hkl
        subst hkl
        clear e HF2 hk
        have hup := up_path w4 s (by omega)
        generalize (upF s).1 = up at *
        generalize (upF s).2 = last at *
        have S5 := S4.drop
        clear S4
        go_wp2_with fail
        refine hup.mono ?_
        rintro e w5 ⟨rfl, hk5⟩
        have S6 := S5.keep hk5
        clear S5 hup hk5
        obtain ⟨mb, S7⟩ := S6.treeOpen
        clear S6
        have c0 := S7.cell 0 _ rfl
        have hl := HLK.out S7.p1
        go_upto_region 11 with fail
        have S8 := S7.box (nodC n1) 46 rfl
        generalize w5.alloc (.cells (nodC n1) 46) = w6 at *
        generalize w5.heap.size = yb at *
        clear S7 c0 hl HLK
        obtain ⟨d, ve, bl, ow, md, st, sr⟩ := n1
        have HE2 : Hid (R = (0, mdel (mput T up ⟨d, ve, bl + 1, ow, md, st, sr⟩) s)) := HE
        clear HE
        simp only at hn1
        obtain ⟨hb1, hb2⟩ := hn1
        obtain ⟨a0, a1, a2, a3, a4, a5, a6⟩ := S8.nod
        simp only at a0 a1 a2 a3 a4 a5 a6
        have f2 := S8.cells_fz 2
        go_upto_region 12 with fail
        have S9 : Sat g (w6.setCell ⟨yb, 2, none⟩ (.int .i64 (bl + 1))) (cellsA yb 46 (nodC ⟨d, ve, bl + 1, ow, md, st, sr⟩) :: cellsA b 114 #[.map (some mb)] :: mapA kS nodV mb T :: L) := S8.setc 2 (.int .i64 (bl + 1))
        generalize w6.setCell ⟨yb, 2, none⟩ (.int .i64 (bl + 1)) = w7 at *
        clear S8 f2 a0 a1 a2 a3 a4 a5 a6
        have S10 := S9.drew
        obtain ⟨a0, a1, a2, a3, a4, a5, a6⟩ := S9.nod
        obtain ⟨b0, b1, b2, b3, b4, b5, b6⟩ := S10.nod
        have c0 := S9.p1.cell 0 _ rfl
        have c0' := S10.p1.cell 0 _ rfl
        obtain ⟨w10, hup, S11⟩ := put_node S10.p2 up ⟨d, ve, bl + 1, ow, md, st, sr⟩
        simp only at a0 a1 a2 a3 a4 a5 a6 b0 b1 b2 b3 b4 b5 b6
        clear S9 S10
        go_still_tail 6, (by kernel_rfl)
        change wpList _ _ _ _ _ w7.drew
        go_upto_region 13 with fail
        clear hup c0 c0' a0 a1 a2 a3 a4 a5 a6 b0 b1 b2 b3 b4 b5 b6
        have c0 := S11.p2.cell 0 _ rfl
        obtain ⟨w11, hdel, S12⟩ := del_node S11 s
        have HS := hide (S12.p1.drop.p1.treeShut)
        clear S11 S12
        go_wp2_with fail
        go_ret
        exact HR.out (0, mdel (mput T up ⟨d, ve, bl + 1, ow, md, st, sr⟩) s) HE2.out _ HS.out
      · have e : R = (13, T) := by rw [HF2.out, if_pos hk]
        have HE := hide e
        have hk1 : 1 ≤ kn := by
          cases h : kidL T s with
          | nil => exact absurd h hk
          | cons a r => rw [h] at hkl; simp at hkl; omega
        have hk2 : (0 : Int) < (kn : Int) := by omega
        clear e HF2 hk hkl
        go_wp2_with fail
        go_ret
        exact HR.out (13, T) HE.out _ S4.drop
  · have h0b : (e0 != 0) = true := by simpa using h0
    have e : R = (e0, T) := by rw [HF.out, if_pos h0]
    have HE := hide e
    clear e HF HAG HKF HKD
    go_wp2_with fail
    go_ret
    exact HR.out (e0, T) HE.out _ S3
end
end

section
set_option linter.unusedVariables false
set_option linter.unusedSimpArgs false
open Go.RowKit

section
variable {g w : World} {L : List Asn} {b mb x : Nat} {T : TreeT}
theorem Sat.srcT {e : TypeId} {size n : Nat} {A : Option Addr} {cap : Nat} {xs : List Value} (S : Sat g w (rowA e size (.slice A n cap) n xs :: L)) : Src w size A n xs := by
  obtain ⟨A', cap', e', _, _, hsrc, _⟩ := S.row.form
  injection e' with e1 e2 e3
  subst e1
  exact hsrc
theorem str_at {n : Nat} {A : Option Addr} {xs : List (List UInt8)} (h : Src w 1 A n (Ss xs)) {k : Nat} (hk : k < n) : ∃ ad s, A = some ad ∧ xs[k]? = some s ∧ w.cell? (ad.add k) = some (.string (S s)) := by
  obtain ⟨ad, u, e, hu, hc⟩ := h.at_ hk
  unfold Ss at hu
  rw [List.getElem?_map] at hu
  cases hx : xs[k]? with
  | none => rw [hx] at hu; simp at hu
  | some s =>
    rw [hx] at hu
    simp only [Option.map_some, Option.some.injEq] at hu
    subst hu
    exact ⟨ad, s, e, rfl, hc⟩
theorem take_filter_succ {α : Type} (l : List α) (p : α → Bool) (k : Nat) (x : α) (h : l[k]? = some x) : (l.take (k + 1)).filter p = (l.take k).filter p ++ if p x = true then [x] else [] := by
  obtain ⟨hk, e⟩ := List.getElem?_eq_some_iff.1 h
  rw [List.take_succ_eq_append_getElem hk, List.filter_append, e]
  congr 1
  cases hp : p x <;> simp [hp]

set_option maxRecDepth 100000 in
set_option maxHeartbeats 4000000 in
theorem owned_tree (S0 : Sat g w (treeA b T :: L)) (hP : PathsOk T) (hT : T.length ≤ 1000000) (o : Int) :
    Calls Tryz.prog 75 #[ptr b, .int .i64 o] w fun e w' => ∃ v, e = .returned v ∧ Sat g w' (rowA 9 1 v (ownedF T o).length (Ss (ownedF T o)) :: treeA b T :: L) := by
  have hpa := paths_tree S0 hP hT
  have HF : Hid (∀ k s, (pathsF T)[k]? = some s → ((pathsF T).take (k + 1)).filter (fun s => decide (((mget T s).getD zN).owner = o ∧ o ≠ 0)) = ((pathsF T).take k).filter (fun s => decide (((mget T s).getD zN).owner = o ∧ o ≠ 0)) ++ if ((mget T s).getD zN).owner = o ∧ o ≠ 0 then [s] else []) := hide (by
    intro k s h
    rw [take_filter_succ _ _ k s h]
    simp)
  have HO : Hid (ownedF T o = (pathsF T).filter (fun s => decide (((mget T s).getD zN).owner = o ∧ o ≠ 0))) := rfl
  have hpl := pathsF_length T
  have HLE : Hid (∀ k, (((pathsF T).take k).filter (fun s => decide (((mget T s).getD zN).owner = o ∧ o ≠ 0))).length ≤ 1000000) := hide (by
    intro k
    have h1 := List.length_filter_le (fun s => decide (((mget T s).getD zN).owner = o ∧ o ≠ 0)) ((pathsF T).take k)
    have h2 : ((pathsF T).take k).length ≤ (pathsF T).length := by simp; omega
    omega)
  generalize ownedF T o = OF at *
  go_enter Tryz.func75, Tryz.ntmps75
  go_wp2_with fail
  refine hpa.mono ?_
  rintro e w1 ⟨v, rfl, S1⟩
  obtain ⟨A, c, rfl, -⟩ := S1.row.form
  obtain ⟨mb, S2⟩ := S1.p1.treeOpen
  have S3 := S2.p2
  clear S0 S1 S2 hpa hP
  generalize pathsF T = PS at *
  go_wp2_with fail
  go_loopw [5, 11] (fun u i wr => ∃ k : Nat, k ≤ T.length ∧ i = .int .i64 k ∧ Sat g wr (rowA 9 1 u ((PS.take k).filter (fun s => decide (((mget T s).getD zN).owner = o ∧ o ≠ 0))).length (Ss ((PS.take k).filter (fun s => decide (((mget T s).getD zN).owner = o ∧ o ≠ 0)))) :: rowA 9 1 (.slice A T.length c) T.length (Ss PS) :: cellsA b 114 #[.map (some mb)] :: mapA kS nodV mb T :: L)) (fun _ i _ => T.length + 1 - (RowKit.intOf i).toNat)
  case atStart => exact ⟨0, by omega, rfl, S3.nilRow _ _⟩
  case round =>
    obtain ⟨k, hk, rfl, S4⟩ := hrel
    clear S3
    by_cases hlt : k < T.length
    · obtain ⟨ad, s, rfl, hs, hc⟩ := str_at S4.p1.srcT hlt
      have hf := HF.out k s hs
      have hle := HLE.out k
      have hk0 : (0 : Int) ≤ (k : Int) := by omega
      have hk1 : (k : Int) < (T.length : Int) := by omega
      have c0 := S4.p2.cell 0 _ rfl
      have hl := look_get S4.p3 s
      obtain ⟨B2, c2, rfl, -⟩ := S4.row.form
      have HF2 := hide hf
      clear hf HF HLE
      generalize (mget T s).getD zN = n at hl HF2
      generalize hFL : (PS.take k).filter (fun s => decide (((mget T s).getD zN).owner = o ∧ o ≠ 0)) = FL at *
      clear hFL hs
      obtain ⟨d, ve, bl, ow, md, st, sr⟩ := n
      simp only at HF2
      have hfield : ∀ w', (Instr.field 46 (.agg #[.string (S d), .int .i64 ve, .int .i64 bl, .int .i64 ow, .int .i64 md, .int .i64 st, .int .i64 sr]) 3).run Tryz.prog w' = .ok (.int .i64 ow) w' := fun w' => by kernel_rfl
      by_cases h1 : ow = o
      · subst h1
        by_cases h2 : ow = 0
        · subst h2
          have hf := HF2.out
          rw [if_neg (by simp), List.append_nil] at hf
          have HF3 := hide hf
          clear hf HF2
          go_wp2_with fail
          go_roundw
          case rel => exact ⟨k + 1, by omega, by go_num, by rw [HF3.out]; exact S4⟩
          case measure => simp [RowKit.intOf]; omega
        · have hf := HF2.out
          rw [if_pos ⟨rfl, h2⟩] at hf
          have HF3 := hide hf
          have h2b : (ow != 0) = true := by simpa using h2
          have h3 : (ow == ow) = true := by simp
          clear hf HF2
          go_wp2_with (at_builtin; refine wpList_sapp slStr rfl (.tmp 28) (.tmp 30) rfl (g := g) (S := (S4.box #[.string (S s)] 9 rfl).p1) rfl (Src.block (heap_alloc_new _ _) 1 1 rfl) rfl (by simp [Value.oneCell']) (by unfold maxLen; omega) (by omega) ?_; intro A5 c5 w5 S5)
          go_roundw
          case rel =>
            refine ⟨k + 1, by omega, by go_num, ?_⟩
            rw [HF3.out]
            have := S5.p1.drop
            simpa [Ss] using this
          case measure => simp [RowKit.intOf]; omega
      · have hf := HF2.out
        rw [if_neg (by simp [h1]), List.append_nil] at hf
        have HF3 := hide hf
        have h3 : (ow == o) = false := by simpa using h1
        clear hf HF2
        go_wp2_with fail
        go_roundw
        case rel => exact ⟨k + 1, by omega, by go_num, by rw [HF3.out]; exact S4⟩
        case measure => simp [RowKit.intOf]; omega
    · obtain rfl : k = T.length := by omega
      have e : PS.take T.length = PS := by rw [← hpl, List.take_length]
      rw [e, ← HO.out] at S4
      have HS := hide (S4.p1.drop.p2.p2.treeShut.p1)
      clear S4 HF HLE
      go_wp2_with fail
      go_ret
      exact ⟨_, rfl, HS.out⟩
end
end

section
set_option linter.unusedVariables false
set_option linter.unusedSimpArgs false
open Go.RowKit

theorem flatMap_Bo (ns : List Bool) : (ns.flatMap fun n => [Value.bool n]) = ns.map Value.bool := by
  induction ns with
  | nil => rfl
  | cons a r ih => simp [ih]
theorem ser_nodes {T : TreeT} {b k : Nat} (h : SerT T b k) (hk : k ≤ 60) (hb : b ≤ 1000) : NodesOk T := by
  obtain ⟨l, rfl, h1, _⟩ := h
  intro p hp
  rcases List.mem_cons.1 hp with rfl | hp
  · simp only; omega
  · obtain ⟨i, _, rfl⟩ := h1 p hp
    simp [qN]
theorem ser_paths {T : TreeT} {b k : Nat} (h : SerT T b k) : PathsOk T := by
  obtain ⟨l, rfl, h1, _⟩ := h
  intro p hp
  rcases List.mem_cons.1 hp with rfl | hp
  · simp
  · obtain ⟨i, _, rfl⟩ := h1 p hp
    simp [numN, numP, fixD_length]
theorem ser_len {T : TreeT} {b k : Nat} (h : SerT T b k) : T.length ≤ k + 1 := by
  obtain ⟨l, rfl, _, h2⟩ := h
  simpa using h2
theorem ser_get {T : TreeT} {b k : Nat} (h : SerT T b k) : getF T [47] = (⟨[], 0, b, 0, 0, 0, k⟩, 0) := by
  have h0 : checkF [47] = 0 := by decide
  unfold getF
  rw [if_pos h0, h.root]
theorem numN_len (k : Nat) : (numN k).length = 12 := by simp [numN, numP, fixD_length]
theorem delete_eq {g w : World} {L : List Asn} {b : Nat} {T : TreeT} (S0 : Sat g w (treeA b T :: L)) (hG : GL g) (hm : oldA g ∈ L) (hP : PathsOk T) (hN : NodesOk T) (s : List UInt8) (v : Int) {r : Int} {T' : TreeT}
    (h : deleteF T s v = (r, T')) (hs : s.length ≤ 140737488350000) (hT : T.length ≤ 1000000) :
    Calls Tryz.prog 76 #[ptr b, .string (S s), .int .i64 v] w fun e w' => e = .returned (.int .i64 r) ∧ Sat g w' (treeA b T' :: L) := by
  have := delete_tree S0 hG hm hP hT s v hs (fun n hn => (hN _ (mget_mem hn)).2.2)
  rw [h] at this
  exact this

end

section
set_option linter.unusedVariables false
set_option linter.unusedSimpArgs false
theorem mput_last {κ α : Type} [DecidableEq κ] {m : List (κ × α)} {k : κ} {v v' : α} (h : k ∉ keys m) : mput (m ++ [(k, v)]) k v' = m ++ [(k, v')] := by
  have hs : (mget (m ++ [(k, v)]) k).isSome = true := by
    have : k ∈ keys (m ++ [(k, v)]) := by simp [keys]
    obtain ⟨u, hu⟩ := mem_keys_mget.1 this
    rw [hu]; rfl
  unfold mput
  rw [if_pos hs, List.map_append]
  congr 1
  · conv => rhs; rw [← List.map_id m]
    apply List.map_congr_left
    intro q hq
    have : ¬ q.1 = k := fun e => h (List.mem_map.2 ⟨q, hq, e⟩)
    simp [this]
  · simp
theorem mdel_last {κ α : Type} [DecidableEq κ] {m : List (κ × α)} {k : κ} {v : α} (h : k ∉ keys m) : mdel (m ++ [(k, v)]) k = m := by
  have : mdel (m ++ [(k, v)]) k = mdel m k := by simp [mdel]
  rw [this, mdel_none h]
theorem mget_last {κ α : Type} [DecidableEq κ] {m : List (κ × α)} {k : κ} {v : α} (h : k ∉ keys m) : mget (m ++ [(k, v)]) k = some v := by
  have h1 : m.find? (fun p => decide (p.1 = k)) = none := by
    have := mget_none.2 h
    simpa [mget] using this
  simp [mget, h1]

/-- the root, and nodes 0 to k-1 with their owners -/
structure OwnT (T : TreeT) (os : List Int) : Prop where
  form : ∃ l : TreeT, T = ([47], ⟨[], 0, os.length, 0, 0, 0, os.length⟩) :: l ∧ l.length = os.length ∧ ∀ i p, l[i]? = some p → p.1 = numN i ∧ some p.2.owner = os[i]? ∧ p.2.serial = 0 ∧ 0 ≤ p.2.below ∧ p.2.below ≤ 2
theorem own_start : OwnT [([47], zN)] [] := ⟨[], rfl, rfl, by intro i p h; simp at h⟩
theorem OwnT.keysL {T : TreeT} {os : List Int} {l : TreeT} (h2 : l.length = os.length) (h3 : ∀ i p, l[i]? = some p → p.1 = numN i ∧ some p.2.owner = os[i]? ∧ p.2.serial = 0 ∧ 0 ≤ p.2.below ∧ p.2.below ≤ 2) {s : List UInt8} (hs : s ∈ keys l) : ∃ i < os.length, s = numN i := by
  obtain ⟨p, hp, rfl⟩ := List.mem_map.1 hs
  obtain ⟨i, hi, e⟩ := List.mem_iff_getElem.1 hp
  exact ⟨i, by omega, (h3 i p (by rw [List.getElem?_eq_getElem hi, e])).1⟩
theorem OwnT.keys_ {T : TreeT} {os : List Int} (h : OwnT T os) {s : List UInt8} (hs : s ∈ keys T) : s = [47] ∨ ∃ i < os.length, s = numN i := by
  obtain ⟨l, rfl, h2, h3⟩ := h
  simp only [keys, List.map_cons, List.mem_cons] at hs
  rcases hs with hs | hs
  · exact .inl hs
  · exact .inr (OwnT.keysL (T := []) h2 h3 hs)
theorem OwnT.len {T : TreeT} {os : List Int} (h : OwnT T os) : T.length = os.length + 1 := by
  obtain ⟨l, rfl, h2, h3⟩ := h
  simp [h2]
theorem OwnT.paths {T : TreeT} {os : List Int} (h : OwnT T os) : PathsOk T := by
  intro p hp
  rcases h.keys_ (List.mem_map.2 ⟨p, hp, rfl⟩) with e | ⟨i, _, e⟩
  · simp [e]
  · rw [e, numN_len]; decide
theorem OwnT.nodes {T : TreeT} {os : List Int} (h : OwnT T os) (hk : os.length ≤ 60) : NodesOk T := by
  obtain ⟨l, rfl, h2, h3⟩ := h
  intro p hp
  rcases List.mem_cons.1 hp with rfl | hp
  · simp only; omega
  · obtain ⟨i, hi, e⟩ := List.mem_iff_getElem.1 hp
    obtain ⟨_, _, q1, q2, q3⟩ := h3 i p (by rw [List.getElem?_eq_getElem hi, e])
    omega
theorem OwnT.create {T : TreeT} {os : List Int} (h : OwnT T os) (o : Int) (hk : os.length < 50) :
    ∃ m : TreeT, createF T [47, 110] [] o ((os.length : Int) + 1) true = (numN os.length, 0, m ++ [(numN os.length, newN [] o ((os.length : Int) + 1))]) ∧ numN os.length ∉ keys m ∧
      (∀ n : NodeT, n.owner = o → n.serial = 0 → 0 ≤ n.below → n.below ≤ 2 → OwnT (m ++ [(numN os.length, n)]) (os ++ [o])) := by
  have hkeys := fun s => h.keys_ (s := s)
  have hlen := h.len
  obtain ⟨l, rfl, h2, h3⟩ := h
  have hroot : mget (([47], (⟨[], 0, os.length, 0, 0, 0, os.length⟩ : NodeT)) :: l) [47] = some ⟨[], 0, os.length, 0, 0, 0, os.length⟩ := by simp [mget]
  have hout : [47] ∉ keys l := by
    intro hm
    obtain ⟨i, _, e⟩ := OwnT.keysL (T := []) h2 h3 hm
    exact num_root i e.symm
  have hfl : numN os.length ∉ keys l := by
    intro hm
    obtain ⟨i, hi, e⟩ := OwnT.keysL (T := []) h2 h3 hm
    have := (num_inj (by omega) (by omega)).1 e
    omega
  have hfresh : ∀ n : NodeT, numN os.length ∉ keys (([47], n) :: l) := by
    intro n hm
    simp only [keys, List.map_cons, List.mem_cons] at hm
    rcases hm with hm | hm
    · exact num_root _ hm
    · exact hfl hm
  refine ⟨([47], ⟨[], 0, (os.length : Int) + 1, 0, 0, 0, (os.length : Int) + 1⟩) :: l, ?_, hfresh _, ?_⟩
  · rw [createF_num o _ check_n (by decide) (by decide) up_n hroot rfl (serial_num os.length (by omega)) (check_num _) (mget_none.2 (hfresh _)), if_neg (by rw [hlen]; omega), mput_head hout, mput_new (mget_none.2 (hfresh _))]
    simp [moreN]
  · intro n q1 q2 q3 q4
    refine ⟨l ++ [(numN os.length, n)], ?_, by simp [h2], ?_⟩
    · simp
    · intro i p hp
      by_cases hi : i < os.length
      · rw [List.getElem?_append_left (by omega)] at hp
        rw [List.getElem?_append_left (by omega)]
        exact h3 i p hp
      · have hi2 : i < (l ++ [(numN os.length, n)]).length := by
          rcases Nat.lt_or_ge i (l ++ [(numN os.length, n)]).length with h | h
          · exact h
          · rw [List.getElem?_eq_none h] at hp; cases hp
        have hi3 : i = os.length := by simp [h2] at hi2; omega
        subst hi3
        rw [← h2, List.getElem?_append_right (Nat.le_refl _)] at hp
        simp only [Nat.sub_self, List.getElem?_cons_zero, Option.some.injEq] at hp
        subst hp
        refine ⟨by rw [h2], ?_, q2, q3, q4⟩
        rw [List.getElem?_append_right (Nat.le_refl _)]
        simp [q1]

/-- the one below the last -/
def subN (k : Nat) : List UInt8 := numN k ++ [47, 120]
theorem subN_len (k : Nat) : (subN k).length = 14 := by simp [subN, numN_len]
theorem check_sub (k : Nat) : checkF (subN k) = 0 := check_cat (numP k) [120] (by rw [cutL_none_ (part_slash (numP_part k))]; simp [numP_part]) (by decide) (by simp [numP, fixD_length])
theorem up_sub (k : Nat) : upF (subN k) = (numN k, [120]) := by
  have := upF_cat (numN k) [120] (by decide) (by decide)
  rw [if_neg (by simp [numN])] at this
  exact this
theorem sub_root (k : Nat) : subN k ≠ [47] := fun e => by have := congrArg List.length e; rw [subN_len] at this; simp at this
theorem sub_num (k i : Nat) : subN k ≠ numN i := fun e => by have := congrArg List.length e; rw [subN_len, numN_len] at this; simp at this
theorem OwnT.subOut {T : TreeT} {os : List Int} (h : OwnT T os) (k : Nat) : subN k ∉ keys T := by
  intro hm
  rcases h.keys_ hm with e | ⟨i, _, e⟩
  · exact sub_root k e
  · exact sub_num k i e
theorem sub_eph {m : TreeT} {k : Nat} {o w : Int} (hm : numN k ∉ keys m) (ho : o ≠ 0) : createF (m ++ [(numN k, newN [] o w)]) (subN k) [] 0 w false = ([], 15, m ++ [(numN k, newN [] o w)]) := by
  have h1 : mget (m ++ [(numN k, newN [] o w)]) (numN k) = some (newN [] o w) := mget_last hm
  unfold createF
  rw [if_neg (by rw [check_sub]; decide), if_neg (sub_root k), if_neg (by decide), up_sub]
  simp only [h1]
  exact if_pos ho
theorem sub_new {m : TreeT} {k : Nat} {w : Int} (hm : numN k ∉ keys m) (hs : subN k ∉ keys m) (hl : m.length ≤ 50) :
    createF (m ++ [(numN k, newN [] 0 w)]) (subN k) [] 0 w false = (subN k, 0, m ++ [(numN k, moreN (newN [] 0 w) false)] ++ [(subN k, newN [] 0 w)]) ∧
    deleteF (m ++ [(numN k, moreN (newN [] 0 w) false)] ++ [(subN k, newN [] 0 w)]) (subN k) (-1) = if kidL (m ++ [(numN k, moreN (newN [] 0 w) false)] ++ [(subN k, newN [] 0 w)]) (subN k) = [] then (0, m ++ [(numN k, moreN (moreN (newN [] 0 w) false) false)]) else (13, m ++ [(numN k, moreN (newN [] 0 w) false)] ++ [(subN k, newN [] 0 w)]) := by
  have h1 : mget (m ++ [(numN k, newN [] 0 w)]) (numN k) = some (newN [] 0 w) := mget_last hm
  have hout : ∀ n, subN k ∉ keys (m ++ [(numN k, n)]) := by
    intro n h
    simp only [keys, List.map_append, List.mem_append, List.map_cons, List.map_nil, List.mem_singleton] at h
    rcases h with h | h
    · exact hs h
    · exact sub_num k k h
  constructor
  · rw [createF_new 0 w (check_sub k) (sub_root k) (by decide) (up_sub k) h1 rfl (mget_none.2 (hout _)), if_neg (by simp; omega), mput_last hm, mput_new (mget_none.2 (hout _))]
  · have hg : mget (m ++ [(numN k, moreN (newN [] 0 w) false)] ++ [(subN k, newN [] 0 w)]) (subN k) = some (newN [] 0 w) := mget_last (hout _)
    have hgn : mget (m ++ [(numN k, moreN (newN [] 0 w) false)] ++ [(subN k, newN [] 0 w)]) (numN k) = some (moreN (newN [] 0 w) false) := by
      have e : m ++ [(numN k, moreN (newN [] 0 w) false)] ++ [(subN k, newN [] 0 w)] = mput (m ++ [(numN k, moreN (newN [] 0 w) false)]) (subN k) (newN [] 0 w) := (mput_new (mget_none.2 (hout _))).symm
      rw [e, mget_mput, if_neg (fun e => sub_num k k e.symm)]
      exact mget_last hm
    have hat : atF (m ++ [(numN k, moreN (newN [] 0 w) false)] ++ [(subN k, newN [] 0 w)]) (subN k) (-1) = (newN [] 0 w, 0) := by
      have : getF (m ++ [(numN k, moreN (newN [] 0 w) false)] ++ [(subN k, newN [] 0 w)]) (subN k) = (newN [] 0 w, 0) := by
        unfold getF
        rw [if_pos (check_sub k), hg]
      unfold atF
      rw [this, if_neg (by simp)]
    have hput : mput (m ++ [(numN k, moreN (newN [] 0 w) false)] ++ [(subN k, newN [] 0 w)]) (numN k) (lessN (moreN (newN [] 0 w) false)) = m ++ [(numN k, moreN (moreN (newN [] 0 w) false) false)] ++ [(subN k, newN [] 0 w)] := by
      unfold mput
      rw [hgn]
      simp only [Option.isSome_some, if_true, List.map_append, List.map_cons, List.map_nil]
      have e1 : m.map (fun p => if p.1 = numN k then (numN k, lessN (moreN (newN [] 0 w) false)) else p) = m := by
        conv => rhs; rw [← List.map_id m]
        apply List.map_congr_left
        intro q hq
        have : ¬ q.1 = numN k := fun e => hm (List.mem_map.2 ⟨q, hq, e⟩)
        simp [this]
      rw [e1, if_neg (sub_num k k)]
      rfl
    unfold deleteF
    rw [hat, if_neg (by simp), if_neg (sub_root k), up_sub, hgn]
    simp only [Option.getD_some]
    rw [hput, mdel_last (hout _)]
    by_cases hk : kidL (m ++ [(numN k, moreN (newN [] 0 w) false)] ++ [(subN k, newN [] 0 w)]) (subN k) = []
    · rw [if_neg (fun h => h hk), if_pos hk]
    · rw [if_pos hk, if_neg hk]
theorem sub_kids {m : TreeT} {k : Nat} {n n' : NodeT} {os : List Int} (h : OwnT (m ++ [(numN k, n)]) os) : kidL (m ++ [(numN k, n)] ++ [(subN k, n')]) (subN k) = [] := by
  unfold kidL
  rw [List.map_eq_nil_iff, List.filter_eq_nil_iff]
  intro p hp
  rcases List.mem_append.1 hp with hp | hp
  · rcases h.keys_ (List.mem_map.2 ⟨p, hp, rfl⟩) with e | ⟨i, _, e⟩
    · rw [e, up_root]
      simp [subN]
    · rw [e, up_num]
      simp only [decide_eq_true_eq]
      exact fun e => sub_root k e.symm
  · obtain rfl : p = (subN k, n') := by simpa using hp
    rw [up_sub]
    simp only [decide_eq_true_eq]
    exact fun e => sub_num k k e.symm

/-! ### whose are whose -/
theorem own_get_ {T : TreeT} {os : List Int} (h : OwnT T os) (hn : (keys T).Nodup) {o : Int} {s : List UInt8} (hs : s ∈ ownedF T o) : ∃ n, getF T s = (n, 0) ∧ n.owner = o := by
  unfold ownedF at hs
  obtain ⟨h1, h2⟩ := List.mem_filter.1 hs
  simp only [decide_eq_true_eq] at h2
  have hk : s ∈ keys T := (sortB_perm _).mem_iff.1 h1
  obtain ⟨n, hg⟩ := mem_keys_mget.1 hk
  have hc : checkF s = 0 := by
    rcases h.keys_ hk with e | ⟨i, _, e⟩
    · rw [e]; decide
    · rw [e]; exact check_num i
  refine ⟨n, ?_, ?_⟩
  · unfold getF
    rw [if_pos hc, hg]
  · rw [hg] at h2
    exact h2.1
theorem own_zero (T : TreeT) : ownedF T 0 = [] := by
  unfold ownedF
  rw [List.filter_eq_nil_iff]
  intro s _
  simp
def cnt (os : List Int) (j : Nat) : Nat := (os.filter fun o => decide (o = (j : Int))).length
theorem cnt_snoc (os : List Int) (o : Int) (j : Nat) : cnt (os ++ [o]) j = cnt os j + if o = (j : Int) then 1 else 0 := by
  unfold cnt
  rw [List.filter_append, List.length_append]
  congr 1
  by_cases h : o = (j : Int) <;> simp [h]
theorem own_len {T : TreeT} {os : List Int} (h : OwnT T os) (hn : (keys T).Nodup) {j : Nat} (hj : 1 ≤ j) : (ownedF T j).length = cnt os j := by
  have h1 : (ownedF T j).length = ((keys T).filter fun s => decide (((mget T s).getD zN).owner = (j : Int) ∧ (j : Int) ≠ 0)).length := ((sortB_perm (keys T)).filter _).length_eq
  rw [h1]
  have h2 : (keys T).filter (fun s => decide (((mget T s).getD zN).owner = (j : Int) ∧ (j : Int) ≠ 0)) = (T.filter fun p => decide (p.2.owner = (j : Int))).map (·.1) := by
    show (T.map (·.1)).filter _ = _
    rw [List.filter_map]
    congr 1
    apply List.filter_congr
    intro p hp
    have hg : mget T p.1 = some p.2 := mget_some hn hp
    have hj0 : (j : Int) ≠ 0 := by omega
    simp [Function.comp, hg, hj0]
    omega
  rw [h2, List.length_map]
  obtain ⟨l, rfl, h3, h4⟩ := h
  rw [List.filter_cons_of_neg (by simp; omega)]
  have h5 : l.map (·.2.owner) = os := by
    apply List.ext_getElem?
    intro i
    rw [List.getElem?_map]
    cases hl : l[i]? with
    | none =>
      have := List.getElem?_eq_none_iff.1 hl
      rw [List.getElem?_eq_none (by omega)]
      rfl
    | some p => exact (h4 i p hl).2.1
  unfold cnt
  rw [← h5, List.filter_map, List.length_map]
  rfl
theorem less_of_lt {a b : List UInt8} (h : a < b) : Op.bytesLess a b = true := by rw [bytesLess_eq]; simpa using h
theorem own_sorted {T : TreeT} (hn : (keys T).Nodup) (o : Int) : (ownedF T o).Pairwise fun a b => Op.bytesLess a b = true := by
  have htr : ∀ a b c : List UInt8, decide (a ≤ b) = true → decide (b ≤ c) = true → decide (a ≤ c) = true := by
    intro a b c h1 h2
    simp only [decide_eq_true_eq] at *
    exact List.le_trans h1 h2
  have hto : ∀ a b : List UInt8, (decide (a ≤ b) || decide (b ≤ a)) = true := by
    intro a b
    simp only [Bool.or_eq_true, decide_eq_true_eq]
    exact List.le_total a b
  have h1 : (sortB (keys T)).Pairwise fun a b => decide (a ≤ b) = true := List.pairwise_mergeSort htr hto _
  have h2 : (sortB (keys T)).Nodup := (sortB_perm (keys T)).nodup_iff.2 hn
  have h3 : (sortB (keys T)).Pairwise fun a b => Op.bytesLess a b = true := by
    refine (h1.and h2).imp ?_
    intro a b ⟨hle, hne⟩
    apply less_of_lt
    simp only [decide_eq_true_eq] at hle
    apply Classical.byContradiction
    intro hlt
    exact hne (List.le_antisymm hle (List.not_lt.1 hlt))
  exact h3.sublist List.filter_sublist
theorem own_next {T : TreeT} (hn : (keys T).Nodup) (o : Int) {k : Nat} {a b : List UInt8} (ha : (ownedF T o)[k]? = some a) (hb : (ownedF T o)[k + 1]? = some b) : Op.bytesLess a b = true := by
  obtain ⟨h1, e1⟩ := List.getElem?_eq_some_iff.1 ha
  obtain ⟨h2, e2⟩ := List.getElem?_eq_some_iff.1 hb
  have := List.pairwise_iff_getElem.1 (own_sorted hn o) k (k + 1) h1 h2 (by omega)
  rwa [e1, e2] at this
end

end Go.Proofs.YtanlobdidjednaaGreatDoor
