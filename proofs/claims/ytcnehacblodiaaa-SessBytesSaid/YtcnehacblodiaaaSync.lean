/- Plain laws: the model and a table in step. No condition. -/
import Derived.Test.YtcnehacblodiaaaModelDo
set_option linter.unusedVariables false
namespace Go.Proofs.Ytcnehacblodiaaa
open Go.RowKit

/-- entries in order; what they hold -/
structure ModT (l : Tab) : Prop where
  asc : (keys l).Pairwise (· < ·)
  len : l.length ≤ 16
  lo : ∀ p ∈ l, 1 ≤ p.1 ∧ p.1 ≤ 281474976710655 ∧ 0 ≤ p.2.1 ∧ p.2.1 ≤ 281474976710655 ∧ (p.2.1 = 0 → p.2.2 = []) ∧ p.2.2.length ≤ 400
structure Sync (l m : Tab) : Prop where
  mod : ModT l
  nd : (keys m).Nodup
  get : ∀ id, mget m id = mget l id
  size : m.length = l.length
theorem ModT.nil : ModT [] := ⟨by simp [keys], by simp, by simp⟩
theorem Sync.nil : Sync [] [] := ⟨ModT.nil, by simp [keys], fun _ => rfl, rfl⟩
theorem ModT.nodup {l : Tab} (h : ModT l) : (keys l).Nodup := h.asc.imp (fun h => by omega)
theorem Sync.mem {l m : Tab} (h : Sync l m) (id : Int) : id ∈ keys m ↔ id ∈ keys l := by
  rw [mem_keys_mget, mem_keys_mget, h.get]
theorem Sync.keys {l m : Tab} (h : Sync l m) : sortI (keys m) = Go.Proofs.Ytcnehacblodiaaa.keys l := by
  have hp : (Go.Proofs.Ytcnehacblodiaaa.keys m).Perm (Go.Proofs.Ytcnehacblodiaaa.keys l) := (List.perm_ext_iff_of_nodup h.nd h.mod.nodup).2 h.mem
  rw [← sortI_asc _ h.mod.asc]
  unfold sortI
  have tr : ∀ a b c : Int, decide (a ≤ b) = true → decide (b ≤ c) = true → decide (a ≤ c) = true := fun a b c h1 h2 => by simp only [decide_eq_true_eq] at *; omega
  have tt : ∀ a b : Int, (decide (a ≤ b) || decide (b ≤ a)) = true := fun a b => by simp only [Bool.or_eq_true, decide_eq_true_eq]; omega
  refine List.Perm.eq_of_pairwise (le := fun a b => a ≤ b) (fun a b _ _ h1 h2 => by omega) ?_ ?_ (((List.mergeSort_perm _ _).trans hp).trans (List.mergeSort_perm _ _).symm)
  · exact (List.pairwise_mergeSort tr tt _).imp (fun h => by simpa using h)
  · exact (List.pairwise_mergeSort tr tt _).imp (fun h => by simpa using h)
theorem Sync.ok {l m : Tab} (h : Sync l m) : tabOk m := fun k hk => by
  obtain ⟨p, hp, rfl⟩ := List.mem_map.1 ((h.mem k).1 hk)
  have := h.mod.lo p hp
  omega
theorem Sync.open_ {l m : Tab} (h : Sync l m) (id : Int) : (openF m id).1 = (openF l id).1 := by
  unfold openF
  have e1 : (id ∈ Go.Proofs.Ytcnehacblodiaaa.keys m) = (id ∈ Go.Proofs.Ytcnehacblodiaaa.keys l) := propext (h.mem id)
  rw [h.size]
  simp only [e1]
  split
  · rfl
  · split
    · rfl
    · split <;> rfl
theorem Sync.close_ {l m : Tab} (h : Sync l m) (id : Int) : (closeF m id).1 = (closeF l id).1 := by
  unfold closeF
  have e1 : (id ∈ Go.Proofs.Ytcnehacblodiaaa.keys m) = (id ∈ Go.Proofs.Ytcnehacblodiaaa.keys l) := propext (h.mem id)
  simp only [e1]
  split <;> rfl
theorem Sync.seen_ {l m : Tab} (h : Sync l m) (id req : Int) : seenF m id req = seenF l id req := by
  unfold seenF
  rw [h.get]
theorem Sync.keep_ {l m : Tab} (h : Sync l m) (id req : Int) (a : List UInt8) : (keepF m id req a).1 = (keepF l id req a).1 := by
  unfold keepF
  rw [h.seen_]
  split
  · rfl
  · split
    · rfl
    · split <;> rfl
/-- in step, an act of both answers alike -/
theorem Sync.doB {l m : Tab} (h : Sync l m) (kd id req : Int) (a : List UInt8) : doB kd l m id req a = true := by
  unfold Go.Proofs.Ytcnehacblodiaaa.doB
  rw [h.open_, h.close_, h.keep_, h.seen_]
  simp

theorem mget_append (l r : Tab) (id : Int) : mget (l ++ r) id = (mget l id).or (mget r id) := by
  unfold mget
  rw [List.find?_append]
  cases l.find? (fun p => decide (p.1 = id)) <;> rfl
theorem mget_cons (p : Int × Ses) (r : Tab) (id : Int) : mget (p :: r) id = if p.1 = id then some p.2 else mget r id := by
  unfold mget
  by_cases h : p.1 = id <;> simp [h]

/-- a new one, in its place -/
theorem insT_mem (l : Tab) (id : Int) : ∃ a b, l = a ++ b ∧ insT l id = a ++ [(id, (0, []))] ++ b ∧ (∀ q ∈ a, q.1 < id) ∧ (∀ p, b.head? = some p → ¬ p.1 < id) := by
  refine ⟨l.takeWhile (fun p => decide (p.1 < id)), l.dropWhile (fun p => decide (p.1 < id)), (List.takeWhile_append_dropWhile).symm, rfl, fun q hq => ?_, fun p hp => ?_⟩
  · have := List.all_takeWhile (l := l) (p := fun p => decide (p.1 < id))
    rw [List.all_eq_true] at this
    simpa using this q hq
  · have := List.head?_dropWhile_not (fun p : Int × Ses => decide (p.1 < id)) l
    rw [hp] at this
    simpa using this
theorem Sync.put0 {l m : Tab} (h : Sync l m) (id : Int) (h1 : 1 ≤ id) (h2 : id ≤ 281474976710655) (h3 : id ∉ Go.Proofs.Ytcnehacblodiaaa.keys l) (h4 : l.length < 16) : Sync (insT l id) (mput m id (0, [])) := by
  obtain ⟨a, b, e1, e2, ha, hb⟩ := insT_mem l id
  have hasc := h.mod.asc
  have hlo := h.mod.lo
  have hge : ∀ q ∈ b, id < q.1 := by
    intro q hq
    rw [e1] at hasc
    simp only [Go.Proofs.Ytcnehacblodiaaa.keys, List.map_append, List.pairwise_append] at hasc
    cases b with
    | nil => cases hq
    | cons p r =>
      have hp := hb p rfl
      have hne : p.1 ≠ id := fun e => h3 (by rw [e1]; simp [Go.Proofs.Ytcnehacblodiaaa.keys, ← e])
      rcases List.mem_cons.1 hq with rfl | hq
      · omega
      · have := hasc.2.1
        simp only [List.map_cons, List.pairwise_cons] at this
        have := this.1 q.1 (List.mem_map.2 ⟨q, hq, rfl⟩)
        omega
  have hnm : id ∉ Go.Proofs.Ytcnehacblodiaaa.keys m := fun hm => h3 ((h.mem id).1 hm)
  refine ⟨⟨?_, ?_, ?_⟩, nodup_mput h.nd _ _, ?_, ?_⟩
  · rw [e2]
    rw [e1] at hasc
    simp only [Go.Proofs.Ytcnehacblodiaaa.keys, List.map_append, List.map_cons, List.map_nil, List.pairwise_append, List.append_assoc] at hasc ⊢
    obtain ⟨g1, g2, g3⟩ := hasc
    refine ⟨g1, ⟨by simp, g2, ?_⟩, ?_⟩
    · intro x hx y hy
      simp only [List.mem_singleton] at hx
      subst hx
      obtain ⟨q, hq, rfl⟩ := List.mem_map.1 hy
      exact hge q hq
    · intro x hx y hy
      rcases List.mem_append.1 hy with hy | hy
      · simp only [List.mem_singleton] at hy
        subst hy
        obtain ⟨q, hq, rfl⟩ := List.mem_map.1 hx
        exact ha q hq
      · exact g3 x hx y hy
  · have hle : l.length = a.length + b.length := by rw [e1]; simp
    rw [e2]; simp; omega
  · intro p hp
    rw [e2] at hp
    simp only [List.mem_append, List.mem_singleton] at hp
    rcases hp with (hp | rfl) | hp
    · exact hlo p (by rw [e1]; simp [hp])
    · exact ⟨h1, h2, by simp, by simp, fun _ => rfl, by simp⟩
    · exact hlo p (by rw [e1]; simp [hp])
  · intro id'
    rw [mget_mput, h.get, e2, e1, mget_append, mget_append, mget_append]
    have hmA : id ∉ Go.Proofs.Ytcnehacblodiaaa.keys a := fun hm => h3 (by rw [e1]; simp only [Go.Proofs.Ytcnehacblodiaaa.keys, List.map_append, List.mem_append]; exact .inl hm)
    by_cases hid : id' = id
    · subst hid
      rw [mget_none.2 hmA, if_pos rfl, mget_cons, if_pos rfl]
      rfl
    · have : mget [(id, ((0 : Int), ([] : List UInt8)))] id' = none := by rw [mget_cons, if_neg (fun e => hid e.symm)]; rfl
      rw [if_neg hid, this]
      simp
  · have hle : l.length = a.length + b.length := by rw [e1]; simp
    rw [length_mput, if_neg hnm, e2, h.size]
    simp
    omega

theorem nodup_mget {l : Tab} (h : (Go.Proofs.Ytcnehacblodiaaa.keys l).Nodup) {k : Nat} {p : Int × Ses} (hk : l[k]? = some p) : mget l p.1 = some p.2 :=
  mget_some h (List.mem_of_getElem? hk)
theorem split_at {l : Tab} {k : Nat} {p : Int × Ses} (hk : l[k]? = some p) : l = l.take k ++ p :: l.drop (k + 1) := by
  obtain ⟨h, rfl⟩ := List.getElem?_eq_some_iff.1 hk
  rw [← List.drop_eq_getElem_cons h, List.take_append_drop]
theorem Sync.del_ {l m : Tab} (h : Sync l m) (id : Int) {k : Nat} {s : Ses} (hk : l[k]? = some (id, s)) : Sync (l.take k ++ l.drop (k + 1)) (mdel m id) := by
  have e1 := split_at hk
  have hasc := h.mod.asc
  have hlo := h.mod.lo
  have hnd := h.mod.nodup
  have hlt := (List.getElem?_eq_some_iff.1 hk).1
  have hidm : id ∈ Go.Proofs.Ytcnehacblodiaaa.keys m := (h.mem id).2 (List.mem_map.2 ⟨_, List.mem_of_getElem? hk, rfl⟩)
  have hlen := h.mod.len
  have hsz := h.size
  have hd := length_mdel h.nd id hidm
  refine ⟨⟨?_, by simp; omega, ?_⟩, nodup_mdel h.nd _, ?_, ?_⟩
  · rw [e1] at hasc
    simp only [Go.Proofs.Ytcnehacblodiaaa.keys, List.map_append, List.map_cons, List.pairwise_append, List.pairwise_cons] at hasc ⊢
    obtain ⟨g1, ⟨g2, g3⟩, g4⟩ := hasc
    exact ⟨g1, g3, fun x hx y hy => g4 x hx y (List.mem_cons_of_mem _ hy)⟩
  · intro p hp
    exact hlo p (by rw [e1]; rcases List.mem_append.1 hp with hp | hp <;> simp [hp])
  · intro id'
    rw [mget_mdel, h.get]
    rw [e1] at hnd
    simp only [Go.Proofs.Ytcnehacblodiaaa.keys, List.map_append, List.map_cons] at hnd
    have hn2 := List.nodup_append.1 hnd
    conv => lhs; rw [e1]
    rw [mget_append, mget_append, mget_cons]
    by_cases hid : id' = id
    · subst hid
      have h1 : mget (l.take k) id' = none := mget_none.2 (fun hm => hn2.2.2 id' hm id' (by simp) rfl)
      have h2 : mget (l.drop (k + 1)) id' = none := mget_none.2 (fun hm => (List.nodup_cons.1 hn2.2.1).1 hm)
      rw [if_pos rfl, h1, h2]
      rfl
    · rw [if_neg hid, if_neg (fun e => hid e.symm)]
  · simp; omega
theorem Sync.set_ {l m : Tab} (h : Sync l m) (id req : Int) (a : List UInt8) {k : Nat} {s : Ses} (hk : l[k]? = some (id, s)) (h1 : 1 ≤ req) (h2 : req ≤ 281474976710655) (h3 : a.length ≤ 400) : Sync (l.set k (id, (req, a))) (mput m id (req, a)) := by
  have e1 := split_at hk
  have hlt := (List.getElem?_eq_some_iff.1 hk).1
  have e2 : l.set k (id, (req, a)) = l.take k ++ (id, (req, a)) :: l.drop (k + 1) := by
    rw [List.set_eq_take_append_cons_drop, if_pos hlt]
  have hkeys : Go.Proofs.Ytcnehacblodiaaa.keys (l.set k (id, (req, a))) = Go.Proofs.Ytcnehacblodiaaa.keys l := by
    rw [e2]
    conv => rhs; rw [e1]
    simp [Go.Proofs.Ytcnehacblodiaaa.keys]
  have hlo := h.mod.lo
  have hnd := h.mod.nodup
  have hidm : id ∈ Go.Proofs.Ytcnehacblodiaaa.keys m := (h.mem id).2 (List.mem_map.2 ⟨_, List.mem_of_getElem? hk, rfl⟩)
  have hl := h.mod.len
  have hsz := h.size
  refine ⟨⟨by rw [hkeys]; exact h.mod.asc, by simp; omega, ?_⟩, nodup_mput h.nd _ _, ?_, ?_⟩
  · intro p hp
    rw [e2] at hp
    simp only [List.mem_append, List.mem_cons] at hp
    rcases hp with hp | rfl | hp
    · exact hlo p (by rw [e1]; simp [hp])
    · have := hlo _ (List.mem_of_getElem? hk)
      refine ⟨this.1, this.2.1, by simp only; omega, h2, fun h0 => ?_, h3⟩
      simp only at h0
      omega
    · exact hlo p (by rw [e1]; simp [hp])
  · intro id'
    rw [mget_mput, h.get]
    rw [e1] at hnd
    simp only [Go.Proofs.Ytcnehacblodiaaa.keys, List.map_append, List.map_cons] at hnd
    have hn2 := List.nodup_append.1 hnd
    rw [e2]
    conv => lhs; rw [e1]
    rw [mget_append, mget_append, mget_cons, mget_cons]
    by_cases hid : id' = id
    · subst hid
      have h1 : mget (l.take k) id' = none := mget_none.2 (fun hm => hn2.2.2 id' hm id' (by simp) rfl)
      simp [h1]
    · rw [if_neg hid, if_neg (fun e => hid e.symm), if_neg (fun e => hid e.symm)]
  · rw [length_mput, if_pos hidm, List.length_set, h.size]

/-- in step they stay -/
theorem Sync.do_ {l m : Tab} (h : Sync l m) (kd id req : Int) (a : List UInt8) : Sync (doL kd l id req a) (doM kd m id req a) := by
  unfold doL doM
  by_cases k0 : kd = 0
  · rw [if_pos k0, if_pos k0, ← h.open_]
    by_cases ho : (openF m id).1 = 0
    · rw [if_pos ho]
      unfold openF at ho ⊢
      by_cases h1 : id < 1 ∨ 281474976710655 < id
      · rw [if_pos h1] at ho; cases ho
      · rw [if_neg h1] at ho ⊢
        by_cases h2 : id ∈ Go.Proofs.Ytcnehacblodiaaa.keys m
        · rw [if_pos h2] at ho; cases ho
        · rw [if_neg h2] at ho ⊢
          by_cases h3 : 16 ≤ m.length
          · rw [if_pos h3] at ho; cases ho
          · rw [if_neg h3]
            exact h.put0 id (by omega) (by omega) (fun hm => h2 ((h.mem id).2 hm)) (by have := h.size; omega)
    · rw [if_neg ho]
      have : (openF m id).2 = m := by
        unfold openF at ho ⊢
        split
        · rfl
        · split
          · rfl
          · split
            · rfl
            · rename_i q1 q2 q3
              rw [if_neg q1, if_neg q2, if_neg q3] at ho
              exact absurd rfl ho
      rw [this]
      exact h
  · rw [if_neg k0, if_neg k0]
    by_cases k1 : kd = 1
    · rw [if_pos k1, if_pos k1, ← h.close_]
      unfold closeF
      by_cases h2 : id ∈ Go.Proofs.Ytcnehacblodiaaa.keys m
      · rw [if_pos h2]
        simp only [if_true]
        obtain ⟨k, s, e, hx, _, _⟩ := atF_some ((h.mem id).1 h2)
        rw [e]
        simpa using h.del_ id hx
      · rw [if_neg h2]
        simpa using h
    · rw [if_neg k1, if_neg k1]
      by_cases k2 : kd = 2 ∨ kd = 3
      · rw [if_pos k2, if_pos k2, ← h.keep_]
        by_cases hk : (keepF m id req a).1 = 0
        · rw [if_pos hk]
          unfold keepF at hk ⊢
          by_cases q1 : (seenF m id req).2.2 ≠ 0
          · rw [if_pos q1] at hk; exact absurd hk q1
          · rw [if_neg q1] at hk ⊢
            by_cases q2 : (seenF m id req).2.1 = true
            · rw [if_pos q2] at hk; cases hk
            · rw [if_neg q2] at hk ⊢
              by_cases q3 : 400 < a.length
              · rw [if_pos q3] at hk; cases hk
              · rw [if_neg q3]
                have hidm : id ∈ Go.Proofs.Ytcnehacblodiaaa.keys m := by
                  by_cases hid : id ∈ Go.Proofs.Ytcnehacblodiaaa.keys m
                  · exact hid
                  · have e : seenF m id req = ([], false, 17) := by simp only [seenF, mget_none.2 hid]
                    rw [e] at q1
                    exact absurd (by decide) q1
                obtain ⟨k, s, e, hx, hg, _⟩ := atF_some ((h.mem id).1 hidm)
                rw [e]
                have hreq : 1 ≤ req ∧ req ≤ 281474976710655 := by
                  rw [h.seen_] at q1
                  unfold seenF at q1
                  rw [hg] at q1
                  simp only at q1
                  by_cases hb : req < 1 ∨ 281474976710655 < req
                  · rw [if_pos hb] at q1; exact absurd (by decide) q1
                  · omega
                simpa using h.set_ id req a hx hreq.1 hreq.2 (by omega)
        · rw [if_neg hk]
          have : (keepF m id req a).2 = m := by
            unfold keepF at hk ⊢
            split
            · rfl
            · split
              · rfl
              · split
                · rfl
                · rename_i q1 q2 q3
                  rw [if_neg q1, if_neg q2, if_neg q3] at hk
                  exact absurd rfl hk
          rw [this]
          exact h
      · rw [if_neg k2, if_neg k2]
        exact h

end Go.Proofs.Ytcnehacblodiaaa
