/- A map's entry taken and stored ('m[k], x = v, y'): the same as a store. No condition. -/
import Derived.Test.YtbfogieeiobpdaaGreatDoorLow
set_option linter.unusedVariables false
set_option linter.unusedSimpArgs false
namespace Go.Proofs.YtbfogieeiobpdaaGreatDoor
open Go.RowKit Go.MapKept

section
variable {κ α : Type} [DecidableEq κ] {kv : κ → Value} {ev : α → Value} {w : World} {b : Nat} {m : List (κ × α)} {P : Program} {kt : TypeId} {d : TypeDesc}
theorem MapOf.entry (h : MapOf kv ev w b m) (K : KeyT P kt d kv) {t et : TypeId} (ht : P.underlying t = some (.map kt et)) {z : Value} (hz : (zeroValue et).run P w = .ok z w) (k : κ) (v : α) :
    ∃ (u : Value) (st : Nat) (w1 w2 : World), (Instr.mapEntry t (.map (some b)) (kv k)).run P w = .ok (.tuple #[u, .int .i64 st]) w1 ∧ (Instr.entryStore t (.map (some b)) (.int .i64 st) (ev v)).run P w1 = .ok () w2 ∧
      (∀ a : Addr, a.block ≠ b → w1.cell? a = w.cell? a) ∧ MapOf kv ev w2 b (mput m k v) ∧ Keeps (fun i => i = b) w w2 := by
  obtain ⟨w', hup, hm, hk⟩ := h.update K ht k v
  obtain ⟨es, clock, hb, hs, he⟩ := h
  have hks := ents_key K he
  have hcell : ∀ (o : Obj) (a : Addr), a.block ≠ b → ({ w with heap := w.heap.setIfInBounds b o } : World).cell? a = w.cell? a := fun o a ha => World.cell?_of_block ((heap_set hb).2 a.block ha)
  rcases findNow_spec (K.key k) es.toList 0 hks with ⟨h1, h2⟩ | ⟨j, e, h1, h2, h3⟩
  · have e0 : (Instr.mapUpdate t (.map (some b)) (kv k) (ev v)).run P w = .ok () { w with heap := w.heap.setIfInBounds b (.map (es.push { key := kv k, val := ev v, born := clock }) (clock + 1)) } := by
      simp [Instr.mapUpdate, run_underlying ht, MapKept.run_getObj_map hb, run_checkKey K.und (K.key k), run_findKey K.und h1, run_setObj_map _ hb, Result.andThen]
    rw [hup] at e0
    injection e0 with _ e0
    subst e0
    refine ⟨z, clock, { w with heap := w.heap.setIfInBounds b (.map (es.push { key := kv k, val := z, born := clock }) (clock + 1)) }, _, ?_, ?_, fun a ha => hcell _ a ha, hm, hk⟩
    · simp [Instr.mapEntry, run_underlying ht, MapKept.run_getObj_map hb, run_checkKey K.und (K.key k), run_findKey K.und h1, run_setObj_map _ hb, Result.andThen, hz, goInt]
    · have hb1 : ({ w with heap := w.heap.setIfInBounds b (.map (es.push { key := kv k, val := z, born := clock }) (clock + 1)) } : World).heap[b]? = some (.map (es.push { key := kv k, val := z, born := clock }) (clock + 1)) := (heap_set hb).1
      have hf : (es.push { key := kv k, val := z, born := clock }).findIdx? (fun e => (e.born : Int) == (clock : Int)) = some es.size := by
        rw [Array.findIdx?_push]
        have : es.findIdx? (fun e => (e.born : Int) == (clock : Int)) = none := by
          rw [Array.findIdx?_eq_none_iff]
          intro x hx
          have := hs.1 x (by simpa using hx)
          simp
          omega
        rw [this]
        simp
      have ha : (es.push { key := kv k, val := z, born := clock }).modify es.size (fun e => { e with val := ev v }) = es.push { key := kv k, val := ev v, born := clock } := by
        apply Array.ext
        · simp
        · intro i h4 h5
          simp only [Array.getElem_modify, Array.getElem_push]
          by_cases hi : i < es.size
          · have hne : ¬ es.size = i := by omega
            simp [hi, hne]
          · have hne : es.size = i := by simp at h4; omega
            simp [hi, hne]
      simp only [Instr.entryStore, Sem.run_bind, MapKept.run_getObj_map hb1, Result.andThen_ok, asInt, asIntOf, Sem.run_pure, hf, run_setObj_map _ hb1, ha]
      simp
  · have hj : es[j]? = some e := by simpa using h2
    have e0 : (Instr.mapUpdate t (.map (some b)) (kv k) (ev v)).run P w = .ok () { w with heap := w.heap.setIfInBounds b (.map (es.modify j fun e => { e with key := kv k, val := ev v }) clock) } := by
      simp [Instr.mapUpdate, run_underlying ht, MapKept.run_getObj_map hb, run_checkKey K.und (K.key k), run_findKey K.und h1, hj, h3, run_keyThatStays (K.key k), run_setObj_map _ hb, Result.andThen]
    rw [hup] at e0
    injection e0 with _ e0
    subst e0
    refine ⟨e.val, e.born, { w with heap := w.heap.setIfInBounds b (.map (es.modify j fun e => { e with key := kv k }) clock) }, _, ?_, ?_, fun a ha => hcell _ a ha, hm, hk⟩
    · simp [Instr.mapEntry, run_underlying ht, MapKept.run_getObj_map hb, run_checkKey K.und (K.key k), run_findKey K.und h1, hj, h3, run_keyThatStays (K.key k), run_setObj_map _ hb, Result.andThen, goInt]
    · have hb1 : ({ w with heap := w.heap.setIfInBounds b (.map (es.modify j fun e => { e with key := kv k }) clock) } : World).heap[b]? = some (.map (es.modify j fun e => { e with key := kv k }) clock) := (heap_set hb).1
      have hjl : j < es.size := (Array.getElem?_eq_some_iff.1 hj).1
      have hje : es[j] = e := (Array.getElem?_eq_some_iff.1 hj).2
      have hf : (es.modify j fun e => { e with key := kv k }).findIdx? (fun x => (x.born : Int) == (e.born : Int)) = some j := by
        rw [Array.findIdx?_eq_some_iff_getElem]
        refine ⟨by simpa using hjl, ?_, fun i hi => ?_⟩
        · simp [Array.getElem_modify, hje]
        · have hn := List.pairwise_iff_getElem.1 hs.2.1
          have := hn i j (by simp; omega) (by simpa using hjl) hi
          simp only [List.getElem_map, Array.getElem_toList, hje] at this
          have hij : ¬ j = i := by omega
          simp [Array.getElem_modify, hij]
          omega
      have ha : (es.modify j fun e => { e with key := kv k }).modify j (fun e => { e with val := ev v }) = es.modify j fun e => { e with key := kv k, val := ev v } := by
        apply Array.ext
        · simp
        · intro i h4 h5
          simp only [Array.getElem_modify]
          split <;> rfl
      simp only [Instr.entryStore, Sem.run_bind, MapKept.run_getObj_map hb1, Result.andThen_ok, asInt, asIntOf, Sem.run_pure, hf, run_setObj_map _ hb1, ha]
      simp
end
end Go.Proofs.YtbfogieeiobpdaaGreatDoor
