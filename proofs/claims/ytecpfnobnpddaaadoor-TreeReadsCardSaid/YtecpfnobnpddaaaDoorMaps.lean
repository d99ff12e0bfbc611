/- Maps as lists of pairs, over any program: what a look-up, a store, a deletion and a length give. No condition. -/
import Derived.Test.YtecpfnobnpddaaaDoorBase
set_option linter.unusedVariables false
set_option linter.unusedSectionVars false
set_option linter.unusedSimpArgs false
namespace Go.Proofs.YtecpfnobnpddaaaDoor
open Go.RowKit Go.MapKept

section
variable {κ α : Type} [DecidableEq κ]
def mget (m : List (κ × α)) (k : κ) : Option α := (m.find? fun p => decide (p.1 = k)).map (·.2)
def mput (m : List (κ × α)) (k : κ) (v : α) : List (κ × α) := if (mget m k).isSome then m.map (fun p => if p.1 = k then (k, v) else p) else m ++ [(k, v)]
def mdel (m : List (κ × α)) (k : κ) : List (κ × α) := m.filter fun p => decide (p.1 ≠ k)
abbrev keys (m : List (κ × α)) : List κ := m.map (·.1)

theorem mget_none {m : List (κ × α)} {k : κ} : mget m k = none ↔ k ∉ keys m := by
  simp only [mget, Option.map_eq_none_iff, List.find?_eq_none, decide_eq_true_eq, List.mem_map, not_exists, not_and]
theorem mget_mem {m : List (κ × α)} {k : κ} {v : α} (h : mget m k = some v) : (k, v) ∈ m := by
  simp only [mget, Option.map_eq_some_iff] at h
  obtain ⟨p, hp, rfl⟩ := h
  have h1 := List.find?_some hp
  simp only [decide_eq_true_eq] at h1
  subst h1
  exact List.mem_of_find?_eq_some hp
theorem mget_some {m : List (κ × α)} (hn : (keys m).Nodup) {k : κ} {v : α} (h : (k, v) ∈ m) : mget m k = some v := by
  induction m with
  | nil => cases h
  | cons p m ih =>
    simp only [keys, List.map_cons, List.nodup_cons] at hn
    by_cases hp : p.1 = k
    · rcases List.mem_cons.1 h with rfl | h'
      · simp [mget]
      · exact absurd (List.mem_map.2 ⟨_, h', rfl⟩) (hp ▸ hn.1)
    · rcases List.mem_cons.1 h with rfl | h'
      · exact absurd rfl hp
      · have := ih hn.2 h'
        simp only [mget, List.find?_cons, hp, decide_false] at this ⊢
        exact this
theorem mget_nil (k : κ) : mget ([] : List (κ × α)) k = none := rfl

theorem keys_mput (m : List (κ × α)) (k : κ) (v : α) : keys (mput m k v) = if k ∈ keys m then keys m else keys m ++ [k] := by
  unfold mput
  by_cases h : k ∈ keys m
  · have : (mget m k).isSome = true := by
      cases hg : mget m k with
      | none => exact absurd h (mget_none.1 hg)
      | some v => rfl
    rw [if_pos this, if_pos h]
    simp only [keys, List.map_map]
    apply List.map_congr_left
    intro p _
    simp only [Function.comp]
    split
    · rename_i e; exact e.symm
    · rfl
  · have : mget m k = none := mget_none.2 h
    rw [this, if_neg h]
    simp [keys]
theorem nodup_mput {m : List (κ × α)} (hn : (keys m).Nodup) (k : κ) (v : α) : (keys (mput m k v)).Nodup := by
  rw [keys_mput]
  split
  · exact hn
  · rename_i h
    rw [List.nodup_append]
    refine ⟨hn, by simp, fun a ha b hb e => ?_⟩
    simp at hb
    subst hb
    subst e
    exact h ha
theorem nodup_mdel {m : List (κ × α)} (hn : (keys m).Nodup) (k : κ) : (keys (mdel m k)).Nodup := hn.sublist (List.filter_sublist.map _)

theorem mget_mput (m : List (κ × α)) (k k' : κ) (v : α) : mget (mput m k v) k' = if k' = k then some v else mget m k' := by
  by_cases h : k ∈ keys m
  · have hs : (mget m k).isSome = true := by
      cases hg : mget m k with
      | none => exact absurd h (mget_none.1 hg)
      | some v => rfl
    unfold mput
    rw [if_pos hs]
    clear hs
    induction m with
    | nil => simp at h
    | cons p m ih =>
      by_cases hp : p.1 = k
      · by_cases hk : k' = k
        · subst hk
          simp [mget, hp]
        · have hk2 : ¬ k = k' := fun e => hk e.symm
          have hp2 : ¬ p.1 = k' := fun e => hk (e.symm.trans hp)
          simp only [mget, List.map_cons, hp, if_true, List.find?_cons, decide_eq_true_eq, hk2, decide_false, hp2, hk, if_false] at ih ⊢
          by_cases hm : k ∈ keys m
          · exact ih hm
          · congr 1
            have : m.map (fun p => if p.1 = k then (k, v) else p) = m := by
              conv => rhs; rw [← List.map_id m]
              apply List.map_congr_left
              intro q hq
              have : ¬ q.1 = k := fun e => hm (List.mem_map.2 ⟨q, hq, e⟩)
              simp [this]
            rw [this]
      · have hm : k ∈ keys m := by
          simp only [keys, List.map_cons, List.mem_cons] at h
          rcases h with h | h
          · exact absurd h.symm hp
          · exact h
        have := ih hm
        simp only [mget, List.map_cons, hp, if_false, List.find?_cons] at this ⊢
        by_cases hk : p.1 = k'
        · have : ¬ k' = k := fun e => hp (hk.trans e)
          simp [hk, this]
        · simp only [hk, decide_false]
          exact this
  · have hs : mget m k = none := mget_none.2 h
    unfold mput
    rw [hs]
    simp only [Option.isSome_none, Bool.false_eq_true, if_false, mget, List.find?_append]
    by_cases hk : k' = k
    · subst hk
      have hf : m.find? (fun p => decide (p.1 = k')) = none := by
        simpa [mget] using hs
      rw [hf]
      simp
    · have hk2 : ¬ k = k' := fun e => hk e.symm
      rw [if_neg hk]
      congr 1
      simp [hk2]
theorem mget_mdel (m : List (κ × α)) (k k' : κ) : mget (mdel m k) k' = if k' = k then none else mget m k' := by
  induction m with
  | nil => simp [mdel, mget]
  | cons p m ih =>
    by_cases hp : p.1 = k
    · have e : mdel (p :: m) k = mdel m k := by simp [mdel, hp]
      rw [e, ih]
      by_cases hk : k' = k
      · simp [hk]
      · have : ¬ p.1 = k' := fun e => hk (e.symm.trans hp)
        simp [hk, mget, this]
    · have e : mdel (p :: m) k = p :: mdel m k := by simp [mdel, hp]
      rw [e]
      by_cases hk : p.1 = k'
      · have : ¬ k' = k := fun e => hp (hk.trans e)
        simp [mget, hk, this]
      · have e1 : ∀ l : List (κ × α), mget (p :: l) k' = mget l k' := by intro l; simp [mget, hk]
        rw [e1, e1, ih]
theorem length_mput (m : List (κ × α)) (k : κ) (v : α) : (mput m k v).length = if k ∈ keys m then m.length else m.length + 1 := by
  have h1 : (keys (mput m k v)).length = (mput m k v).length := by simp
  rw [← h1, keys_mput]
  split <;> simp
theorem length_mdel {m : List (κ × α)} (hn : (keys m).Nodup) (k : κ) (h : k ∈ keys m) : (mdel m k).length + 1 = m.length := by
  induction m with
  | nil => simp at h
  | cons p m ih =>
    simp only [keys, List.map_cons, List.nodup_cons] at hn
    by_cases hp : p.1 = k
    · have e : mdel (p :: m) k = mdel m k := by simp [mdel, hp]
      have e2 : mdel m k = m := by
        unfold mdel
        rw [List.filter_eq_self]
        intro q hq
        simp only [decide_eq_true_eq]
        intro e
        exact hn.1 (List.mem_map.2 ⟨q, hq, e.trans hp.symm⟩)
      rw [e, e2]
      simp
    · have hm : k ∈ keys m := by
        simp only [keys, List.map_cons, List.mem_cons] at h
        rcases h with h | h
        · exact absurd h.symm hp
        · exact h
      have e : mdel (p :: m) k = p :: mdel m k := by simp [mdel, hp]
      rw [e, List.length_cons, List.length_cons, ih hn.2 hm]
theorem mem_keys_mdel {m : List (κ × α)} {k k' : κ} : k' ∈ keys (mdel m k) ↔ k' ∈ keys m ∧ k' ≠ k := by
  simp only [keys, mdel, List.mem_map, List.mem_filter, decide_eq_true_eq]
  constructor
  · rintro ⟨p, ⟨h1, h2⟩, rfl⟩; exact ⟨⟨p, h1, rfl⟩, h2⟩
  · rintro ⟨⟨p, h1, rfl⟩, h2⟩; exact ⟨p, ⟨h1, h2⟩, rfl⟩
theorem mem_keys_mget {m : List (κ × α)} {k : κ} : k ∈ keys m ↔ ∃ v, mget m k = some v := by
  constructor
  · intro h
    cases hg : mget m k with
    | none => exact absurd h (mget_none.1 hg)
    | some v => exact ⟨v, rfl⟩
  · rintro ⟨v, hv⟩
    exact List.mem_map.2 ⟨_, mget_mem hv, rfl⟩
end

/-! ### the block -/
structure KeyT (P : Program) (kt : TypeId) (d : TypeDesc) {κ : Type} (kv : κ → Value) : Prop where
  und : P.underlying kt = some d
  key : ∀ k, IsKey d (kv k)
  inj : ∀ a b, kv a = kv b → a = b

section
variable {κ α : Type} [DecidableEq κ]
def MapOf (kv : κ → Value) (ev : α → Value) (w : World) (b : Nat) (m : List (κ × α)) : Prop :=
  ∃ es clock, w.heap[b]? = some (.map es clock) ∧ Stamped es clock ∧ es.toList.map (fun e => (e.key, e.val)) = m.map fun p => (kv p.1, ev p.2)

variable {kv : κ → Value} {ev : α → Value} {w w' : World} {b : Nat} {m : List (κ × α)} {P : Program} {kt : TypeId} {d : TypeDesc}

theorem MapOf.lt (h : MapOf kv ev w b m) : b < w.heap.size := by
  obtain ⟨es, clock, hb, _⟩ := h
  exact heap_lt hb
theorem MapOf.kept {F : Nat → Prop} (h : MapOf kv ev w b m) (hk : Keeps F w w') (hF : ¬ F b) : MapOf kv ev w' b m := by
  obtain ⟨es, clock, hb, r⟩ := h
  exact ⟨es, clock, hk.heap hb hF, r⟩
theorem MapOf.made (kv : κ → Value) (ev : α → Value) (w : World) : MapOf kv ev (w.alloc (.map #[] 0)) w.heap.size [] :=
  ⟨#[], 0, (heap_alloc w _).1, stamped_empty 0, rfl⟩
theorem MapOf.alloc (h : MapOf kv ev w b m) (o : Obj) : MapOf kv ev (w.alloc o) b m := h.kept ((Keeps.refl (fun _ => False) w).alloc o) (fun h => h)
theorem MapOf.nodup (h : MapOf kv ev w b m) : (keys m).Nodup := by
  obtain ⟨es, clock, hb, hs, he⟩ := h
  have h1 := hs.2.2
  have h2 : es.toList.map (·.key) = (keys m).map kv := by
    have := congrArg (List.map Prod.fst) he
    simpa [List.map_map, Function.comp_def] using this
  rw [h2] at h1
  exact List.Pairwise.of_map kv (fun a b hab e => hab (by rw [e])) h1
theorem MapOf.isMap (h : MapOf kv ev w b m) : ∀ cur e fz, w.heap[b]? ≠ some (.cells cur e fz) := by
  obtain ⟨es, clock, hb, _⟩ := h
  intro cur e fz he
  rw [hb] at he
  cases he

theorem ents_key (K : KeyT P kt d kv) {es : Array MapEntry} (he : es.toList.map (fun e => (e.key, e.val)) = m.map fun p => (kv p.1, ev p.2)) : ∀ x ∈ es.toList, IsKey d x.key := by
  intro x hx
  have : (x.key, x.val) ∈ es.toList.map (fun e => (e.key, e.val)) := List.mem_map.2 ⟨x, hx, rfl⟩
  rw [he] at this
  obtain ⟨p, _, hp⟩ := List.mem_map.1 this
  simp only [Prod.mk.injEq] at hp
  rw [← hp.1]
  exact K.key _

theorem ents_none (K : KeyT P kt d kv) {es : Array MapEntry} (he : es.toList.map (fun e => (e.key, e.val)) = m.map fun p => (kv p.1, ev p.2)) {k : κ} (h : ∀ x ∈ es.toList, x.key ≠ kv k) : k ∉ keys m := by
  intro hk
  obtain ⟨p, hp, rfl⟩ := List.mem_map.1 hk
  have : (kv p.1, ev p.2) ∈ m.map fun p => (kv p.1, ev p.2) := List.mem_map.2 ⟨p, hp, rfl⟩
  rw [← he] at this
  obtain ⟨x, hx, hxe⟩ := List.mem_map.1 this
  simp only [Prod.mk.injEq] at hxe
  exact h x hx hxe.1

theorem ents_at (K : KeyT P kt d kv) {es : Array MapEntry} (he : es.toList.map (fun e => (e.key, e.val)) = m.map fun p => (kv p.1, ev p.2)) {k : κ} {j : Nat} {x : MapEntry} (hx : es.toList[j]? = some x) (hxk : x.key = kv k) :
    ∃ v, m[j]? = some (k, v) ∧ x.val = ev v := by
  have h1 := congrArg (·[j]?) he
  simp only [List.getElem?_map, hx, Option.map_some] at h1
  cases hm : m[j]? with
  | none => rw [hm] at h1; simp at h1
  | some p =>
    rw [hm] at h1
    simp only [Option.map_some, Option.some.injEq, Prod.mk.injEq] at h1
    have : p.1 = k := K.inj _ _ (h1.1.symm.trans hxk)
    subst this
    exact ⟨p.2, rfl, h1.2⟩

theorem MapOf.look_some (h : MapOf kv ev w b m) (K : KeyT P kt d kv) {t et : TypeId} (ht : P.underlying t = some (.map kt et)) {k : κ} {v : α} (hg : mget m k = some v) (ok : Bool) :
    (Instr.lookup t (.map (some b)) (kv k) ok).run P w = .ok (if ok then .tuple #[ev v, .bool true] else ev v) w := by
  have hn := h.nodup
  obtain ⟨es, clock, hb, hs, he⟩ := h
  rcases findNow_spec (K.key k) es.toList 0 (ents_key K he) with ⟨h1, h2⟩ | ⟨j, e, h1, h2, h3⟩
  · exact absurd (mem_keys_mget.2 ⟨v, hg⟩) (ents_none K he h2)
  · obtain ⟨v', hv', hev⟩ := ents_at K he h2 h3
    have : mget m k = some v' := mget_some hn (List.mem_of_getElem? hv')
    rw [hg] at this
    injection this with this
    subst this
    simp [Instr.lookup, run_underlying ht, MapKept.run_getObj_map hb, run_checkKey K.und (K.key k), run_findKey K.und h1, Result.andThen, hev]

theorem MapOf.look_none (h : MapOf kv ev w b m) (K : KeyT P kt d kv) {t et : TypeId} (ht : P.underlying t = some (.map kt et)) {k : κ} (hg : mget m k = none) {z : Value} (hz : (zeroValue et).run P w = .ok z w) (ok : Bool) :
    (Instr.lookup t (.map (some b)) (kv k) ok).run P w = .ok (if ok then .tuple #[z, .bool false] else z) w := by
  have hn := h.nodup
  obtain ⟨es, clock, hb, hs, he⟩ := h
  rcases findNow_spec (K.key k) es.toList 0 (ents_key K he) with ⟨h1, h2⟩ | ⟨j, e, h1, h2, h3⟩
  · simp [Instr.lookup, run_underlying ht, MapKept.run_getObj_map hb, run_checkKey K.und (K.key k), run_findKey K.und h1, Result.andThen, hz]
  · obtain ⟨v', hv', hev⟩ := ents_at K he h2 h3
    have : mget m k = some v' := mget_some hn (List.mem_of_getElem? hv')
    rw [hg] at this
    cases this

theorem MapOf.update (h : MapOf kv ev w b m) (K : KeyT P kt d kv) {t et : TypeId} (ht : P.underlying t = some (.map kt et)) (k : κ) (v : α) :
    ∃ w', (Instr.mapUpdate t (.map (some b)) (kv k) (ev v)).run P w = .ok () w' ∧ MapOf kv ev w' b (mput m k v) ∧ Keeps (fun i => i = b) w w' := by
  have hn := h.nodup
  obtain ⟨es, clock, hb, hs, he⟩ := h
  have hks := ents_key K he
  have keeps : ∀ o, Keeps (fun i => i = b) w { w with heap := w.heap.setIfInBounds b o } := fun o =>
    ⟨rfl, rfl, rfl, by simp, fun i _ hi => (heap_set hb).2 i hi⟩
  rcases findNow_spec (K.key k) es.toList 0 hks with ⟨h1, h2⟩ | ⟨j, e, h1, h2, h3⟩
  · refine ⟨{ w with heap := w.heap.setIfInBounds b (.map (es.push { key := kv k, val := ev v, born := clock }) (clock + 1)) }, by simp [Instr.mapUpdate, run_underlying ht, MapKept.run_getObj_map hb, run_checkKey K.und (K.key k), run_findKey K.und h1, run_setObj_map _ hb, Result.andThen], ⟨_, _, (heap_set hb).1, stamped_push hs h2, ?_⟩, keeps _⟩
    have hnk := ents_none K he h2
    have : mget m k = none := mget_none.2 hnk
    simp [mput, this, he]
  · have hj : es[j]? = some e := by simpa using h2
    refine ⟨{ w with heap := w.heap.setIfInBounds b (.map (es.modify j fun e => { e with key := kv k, val := ev v }) clock) }, by simp [Instr.mapUpdate, run_underlying ht, MapKept.run_getObj_map hb, run_checkKey K.und (K.key k), run_findKey K.und h1, hj, h3, run_keyThatStays (K.key k), run_setObj_map _ hb, Result.andThen], ⟨_, _, (heap_set hb).1, ?_, ?_⟩, keeps _⟩
    · refine stamped_modify hs _ _ (fun _ _ => rfl) (fun e' _ he' => ?_)
      rw [hj] at he'
      cases he'
      exact h3.symm
    · obtain ⟨v', hv', hev⟩ := ents_at K he h2 h3
      have hg : mget m k = some v' := mget_some hn (List.mem_of_getElem? hv')
      unfold mput
      rw [hg]
      simp only [Option.isSome_some, if_true]
      apply List.ext_getElem?
      intro i
      have hi := congrArg (·[i]?) he
      simp only [List.getElem?_map] at hi
      simp only [List.getElem?_map, Array.getElem?_toList, Array.getElem?_modify]
      by_cases hij : j = i
      · subst hij
        rw [if_pos rfl, hj, hv']
        simp
      · rw [if_neg hij]
        rw [show es[i]? = es.toList[i]? from by simp, hi]
        cases hm : m[i]? with
        | none => rfl
        | some p =>
          have : ¬ p.1 = k := by
            intro e
            have h5 : (keys m)[i]? = some k := by simp [keys, hm, e]
            have h6 : (keys m)[j]? = some k := by simp [keys, hv']
            obtain ⟨hi', e5⟩ := List.getElem?_eq_some_iff.1 h5
            obtain ⟨hj', e6⟩ := List.getElem?_eq_some_iff.1 h6
            have hp := List.pairwise_iff_getElem.1 hn
            rcases Nat.lt_or_gt_of_ne hij with hlt | hlt
            · exact hp j i hj' hi' hlt (e6.trans e5.symm)
            · exact hp i j hi' hj' hlt (e5.trans e6.symm)
          simp [this]

theorem filter_erase {m : List (κ × α)} (hn : (keys m).Nodup) {j : Nat} {k : κ} {v : α} (h : m[j]? = some (k, v)) : mdel m k = m.eraseIdx j := by
  induction m generalizing j with
  | nil => simp at h
  | cons p m ih =>
    simp only [keys, List.map_cons, List.nodup_cons] at hn
    cases j with
    | zero =>
      simp only [List.getElem?_cons_zero, Option.some.injEq] at h
      subst h
      have e2 : mdel m k = m := by
        unfold mdel
        rw [List.filter_eq_self]
        intro q hq
        simp only [decide_eq_true_eq]
        intro e
        exact hn.1 (List.mem_map.2 ⟨q, hq, e⟩)
      have e : mdel ((k, v) :: m) k = mdel m k := by simp [mdel]
      rw [e, e2]
      rfl
    | succ j =>
      simp only [List.getElem?_cons_succ] at h
      have hp : ¬ p.1 = k := fun e => hn.1 (e ▸ List.mem_map.2 ⟨_, List.mem_of_getElem? h, rfl⟩)
      have e : mdel (p :: m) k = p :: mdel m k := by simp [mdel, hp]
      rw [e, ih hn.2 h]
      rfl

theorem MapOf.delete (h : MapOf kv ev w b m) (K : KeyT P kt d kv) {t et ty t2 : TypeId} (ht : P.underlying t = some (.map kt et)) (k : κ) :
    ∃ w', (Builtin.delete_ #[t, t2] ty #[.map (some b), kv k]).run P w = .ok (.tuple #[]) w' ∧ MapOf kv ev w' b (mdel m k) ∧ Keeps (fun i => i = b) w w' := by
  have hn := h.nodup
  obtain ⟨es, clock, hb, hs, he⟩ := h
  have hks := ents_key K he
  have keeps : ∀ o, Keeps (fun i => i = b) w { w with heap := w.heap.setIfInBounds b o } := fun o =>
    ⟨rfl, rfl, rfl, by simp, fun i _ hi => (heap_set hb).2 i hi⟩
  rcases findNow_spec (K.key k) es.toList 0 hks with ⟨h1, h2⟩ | ⟨j, e, h1, h2, h3⟩
  · refine ⟨_, by simp [Builtin.delete_, run_underlying ht, MapKept.run_getObj_map hb, run_checkKey K.und (K.key k), run_findKey K.und h1, run_setObj_map _ hb, Result.andThen], ⟨_, _, (heap_set hb).1, hs, ?_⟩, keeps _⟩
    have hnk := ents_none K he h2
    have : mdel m k = m := by
      unfold mdel
      rw [List.filter_eq_self]
      intro q hq
      simp only [decide_eq_true_eq]
      intro e
      exact hnk (List.mem_map.2 ⟨q, hq, e⟩)
    rw [this]
    exact he
  · refine ⟨_, by simp [Builtin.delete_, run_underlying ht, MapKept.run_getObj_map hb, run_checkKey K.und (K.key k), run_findKey K.und h1, run_setObj_map _ hb, Result.andThen], ⟨_, _, (heap_set hb).1, stamped_erase hs j, ?_⟩, keeps _⟩
    obtain ⟨v', hv', hev⟩ := ents_at K he h2 h3
    rw [filter_erase hn hv']
    have hjl : j < es.size := by
      have := (List.getElem?_eq_some_iff.1 h2).1
      simpa using this
    rw [Array.toList_eraseIdxIfInBounds, ChangeMaps.map_eraseIdx, ChangeMaps.map_eraseIdx, he]

theorem MapOf.len (h : MapOf kv ev w b m) {t kt et ty : TypeId} (ht : P.underlying t = some (.map kt et)) : (Builtin.len_ #[t] ty #[.map (some b)]).run P w = .ok (.int .i64 m.length) w := by
  obtain ⟨es, clock, hb, hs, he⟩ := h
  have : es.size = m.length := by
    have := congrArg List.length he
    simpa using this
  simp [Builtin.len_, run_underlying ht, MapKept.run_getObj_map hb, Result.andThen, goInt, this]
end

end Go.Proofs.YtecpfnobnpddaaaDoor
