/- What the numbers of a table of sessions and the paths of a tree give, whatever the values are. No condition. -/
import Derived.Test.YtegafdkhbgojcaaGreatDoorEC
import Derived.Shelf.SlIterI.Nil
import Derived.Shelf.SlIter.Nil
import Derived.Shelf.SortM.Plain
import Derived.Shelf.SortM.SortNone
import Derived.Ground.GgzProg
import Derived.Ground.SlgmProg
import Derived.Test.YtegafdkhbgojcaaGreatDoorLays
import Derived.Test.YtegafdkhbgojcaaGreatDoorLaysT
import Derived.StillTailTactics
set_option linter.unusedVariables false
set_option linter.unusedSimpArgs false
namespace Go.Proofs.YtegafdkhbgojcaaGreatDoor.Ek
section
open Go.RowKit Go.Maps Go.Sort Go.Shelf Go.MapKept
abbrev kI (k : Int) : Value := .int .i64 k
abbrev kS (k : List UInt8) : Value := .string (S k)
def sortI (l : List Int) : List Int := l.mergeSort fun x y => decide (x ≤ y)
def sortB (l : List (List UInt8)) : List (List UInt8) := l.mergeSort fun x y => decide (x ≤ y)
theorem owns_int {α : Type} {ev : α → Value} {w : World} {b : Nat} {m : List (Int × α)} (h : MapOf kI ev w b m) (hk : ∀ k ∈ keys m, (Lit.int .i64 k).wf = true) (hl : m.length ≤ maxLen) :
    ∃ D0 : DataW Unit, w.ownsMap Tryz.prog 3 (fun _ => some (.nil, [])) b m.length D0 ∧ (intKeys D0).Perm (keys m) ∧ Maps.size D0 = m.length := by
  obtain ⟨es, clock, hb, hst, he⟩ := h
  have hlen : es.toList.length = m.length := by simpa using congrArg List.length he
  have hkeys : es.toList.map (·.key) = m.map fun p => kI p.1 := by
    have := congrArg (List.map (·.1)) he
    simpa [List.map_map, Function.comp_def] using this
  have hrd : ∀ x ∈ es.toList, ∃ k : Int, x.key = kI k ∧ WideElems.rd Tryz.prog 3 (fun _ => some ((.nil : DataW Unit), [])) x = some (.int .i64 k, .nil) := by
    intro x hx
    have h1 : x.key ∈ m.map fun p => kI p.1 := by rw [← hkeys]; exact List.mem_map.2 ⟨x, hx, rfl⟩
    obtain ⟨p, hp, e⟩ := List.mem_map.1 h1
    refine ⟨p.1, e.symm, ?_⟩
    have := Maps.keyOf_int_mk (P := Tryz.prog) Tryz.underlying3 (hk p.1 (List.mem_map.2 ⟨p, hp, rfl⟩))
    unfold WideElems.rd
    rw [← e, this]
    rfl
  refine ⟨_, ⟨es, clock, hb, ⟨by simp at hlen; omega, hst, fun x hx => by obtain ⟨k, _, h⟩ := hrd x hx; exact ⟨_, h⟩⟩, by simp at hlen; omega, rfl⟩, ?_, ?_⟩
  · refine ((WideShapes.sorted_perm _).map _).trans ?_
    rw [List.map_map]
    have : es.toList.map ((fun p : Lit × DataW Unit => Go.intOf p.1) ∘ WideElems.rg Tryz.prog 3 (fun _ => some (.nil, []))) = keys m := by
      have h2 : keys m = (es.toList.map (·.key)).map RowKit.intOf := by
        rw [hkeys, List.map_map]
        rfl
      rw [h2, List.map_map]
      apply List.map_congr_left
      intro x hx
      obtain ⟨k, e, h⟩ := hrd x hx
      simp only [Function.comp, WideElems.rg, h, Option.getD_some, e]
      rfl
    rw [this]
  · show ((es.toList.map (WideElems.rg Tryz.prog 3 _)).foldr DataW.insert []).length = _
    rw [length_sorted]
    simpa using hlen

theorem sortsA (m : Nat) : AnyZI.SortsIn Tryz.prog Tryz.sortedA_ren Fence.wide m :=
  ⟨fun blk off cap ss W hH hblk hsz => callsIn_wide.2 (AnyM.slices_Sort_int Tryz.sortA blk off cap ss W hH hblk hsz),
   fun p cap W => callsIn_wide.2 (AnyM.slices_Sort_int_none Tryz.sortA p cap W)⟩

set_option maxHeartbeats 1000000 in
theorem all_gen (w : World) (t o mb : Nat) (m : List (Int × Value)) (c0 : w.cell? ⟨t, o, none⟩ = some (.map (some mb))) (h : MapOf kI id w mb m) (hk : ∀ k ∈ keys m, (Lit.int .i64 k).wf = true) (hl : m.length ≤ 1000000) :
    Calls Tryz.prog 237 #[.pointer (some ⟨t, o, none⟩)] w fun e w' => ∃ v, e = .returned v ∧ w'.ownsRow w.heap.size 3 1 v m.length (Is (sortI (keys m))) ∧ (v = .slice none 0 0 ↔ m = []) ∧ Keeps (fun _ => False) w w' := by
  obtain ⟨D0, hown, hperm, hsize⟩ := owns_int h hk (by unfold maxLen; omega)
  have hmax : Maps.size D0 ≤ maxLen := by unfold maxLen; omega
  have hbytes : Maps.size D0 * 8 ≤ 140737488355328 := by omega
  have hbl := hown.lt
  refine (callsIn_wide (n := 6)).1 ?_
  have hseq : SeqGives Fence.wide 2 Tryz.prog 353 #[.pointer (some ⟨w.heap.size, 0, none⟩)] encZ (fun ss => ss.Perm (intKeys D0)) (Maps.size D0) (w.alloc (.cells #[.map (some mb)] 287)) :=
    AnyZI.keys_gives (ρ := Tryz.keysA_ren) { Tryz.keysA with } Fence.wide _ trivial rfl (by omega) w.heap.size mb m.length D0 _ (by simp) (by simp) (by
      obtain ⟨es, clock, hb, Ft, hs, hD⟩ := hown
      exact ⟨es, clock, (Below.heap_alloc _ _ mb hbl).trans hb, Ft, hs, hD⟩)
  have cK : ∀ mb W, CallsIn Fence.wide 5 Tryz.prog 303 #[.map mb] W fun e w' => e = .returned (.func (.func 353) #[] #[.pointer (some ⟨W.heap.size, 0, none⟩)]) ∧ w' = W.alloc (.cells #[.map mb] 287) := fun mb W => AnyZI.keys_in Tryz.keysA Fence.wide 5 trivial rfl mb W
  have cS := AnyZI.sorted_in Tryz.sortedA Fence.wide 5 trivial trivial trivial trivial rfl (by omega) (sortsA _) (enters_of Tryz.func236 (by kernel_rfl) rfl) 353 #[.pointer (some ⟨w.heap.size, 0, none⟩)] trivial (enters_of Tryz.func353 (by kernel_rfl) rfl) _ _ hmax hbytes _ hseq
  change CallsIn _ _ Tryz.prog 302 _ _ _ at cS
  have hfK : Fence.wide.fn 303 := trivial
  have hfS : Fence.wide.fn 302 := trivial
  refine callsIn_of_wp Tryz.func237 rfl trivial ?_ rfl
  simp only [Tryz.ntmps237, List.size_toArray, List.length_cons, List.length_nil, Nat.reduceAdd, Nat.reduceSub, Array.replicate_succ, Array.replicate_zero, List.push_toArray, List.append_toArray, List.nil_append, List.cons_append]
  clear hown h hk
  gi_wp2_with (first
    | (gi_at_call 303; refine (cK _ _).mono ?_; rintro e w' ⟨rfl, rfl⟩)
    | (gi_at_call 302; refine cS.mono ?_; rintro e w' ⟨v, ss, rfl, hS, hrow, hnil, hb⟩))
  go_ret
  have hS2 : ss.mergeSort (fun x y => decide (x ≤ y)) = sortI (keys m) := mergeSort_of_perm_i (hS.trans hperm)
  have hlen : ss.length = m.length := by
    have := (hS.trans hperm).length_eq
    simpa using this
  rw [hS2, hlen] at hrow
  refine ⟨v, rfl, ownsRow_base_a hrow (by simp), hnil.trans ⟨fun e => List.eq_nil_of_length_eq_zero (by rw [← hlen, e]; rfl), fun e => List.eq_nil_of_length_eq_zero (by rw [hlen, e]; rfl)⟩, ?_⟩
  have hb2 : Below w.heap.size w w' := ((Below.refl _ w).alloc (Nat.le_refl _) _).trans (hb.mono (by simp))
  exact (Keeps.of_below hb2).mono fun k hk h => by omega

theorem owns_str {α : Type} {ev : α → Value} {w : World} {b : Nat} {m : List (List UInt8 × α)} (h : MapOf kS ev w b m) (hk : ∀ k ∈ keys m, k.length ≤ maxLen) (hl : m.length ≤ maxLen) :
    ∃ D0 : DataW Unit, w.ownsMap Tryz.prog 9 (fun _ => some (.nil, [])) b m.length D0 ∧ (strKeys D0).Perm (keys m) ∧ Maps.size D0 = m.length := by
  obtain ⟨es, clock, hb, hst, he⟩ := h
  have hlen : es.toList.length = m.length := by simpa using congrArg List.length he
  have hkeys : es.toList.map (·.key) = m.map fun p => kS p.1 := by
    have := congrArg (List.map (·.1)) he
    simpa [List.map_map, Function.comp_def] using this
  have hrd : ∀ x ∈ es.toList, ∃ k : List UInt8, x.key = kS k ∧ WideElems.rd Tryz.prog 9 (fun _ => some ((.nil : DataW Unit), [])) x = some (.string k, .nil) := by
    intro x hx
    have h1 : x.key ∈ m.map fun p => kS p.1 := by rw [← hkeys]; exact List.mem_map.2 ⟨x, hx, rfl⟩
    obtain ⟨p, hp, e⟩ := List.mem_map.1 h1
    refine ⟨p.1, e.symm, ?_⟩
    have hpl := hk p.1 (List.mem_map.2 ⟨p, hp, rfl⟩)
    have : keyOf Tryz.prog 9 (kS p.1) = some (.string p.1) := by
      simp [keyOf, Tryz.underlying9, mapKey, hpl]
    unfold WideElems.rd
    rw [← e, this]
    rfl
  refine ⟨_, ⟨es, clock, hb, ⟨by simp at hlen; omega, hst, fun x hx => by obtain ⟨k, _, h⟩ := hrd x hx; exact ⟨_, h⟩⟩, by simp at hlen; omega, rfl⟩, ?_, ?_⟩
  · refine ((WideShapes.sorted_perm _).map _).trans ?_
    rw [List.map_map]
    have : es.toList.map ((fun p : Lit × DataW Unit => Go.strOf p.1) ∘ WideElems.rg Tryz.prog 9 (fun _ => some (.nil, []))) = keys m := by
      have h2 : keys m = (es.toList.map (·.key)).map (fun v => match v with | .string s => s.data.toList | _ => []) := by
        rw [hkeys, List.map_map]
        apply List.map_congr_left
        intro p _
        simp [Function.comp]
      rw [h2, List.map_map]
      apply List.map_congr_left
      intro x hx
      obtain ⟨k, e, h⟩ := hrd x hx
      simp only [Function.comp, WideElems.rg, h, Option.getD_some, e]
      simp [Go.strOf]
    rw [this]
  · show ((es.toList.map (WideElems.rg Tryz.prog 9 _)).foldr DataW.insert []).length = _
    rw [length_sorted]
    simpa using hlen

theorem sortsT (m : Nat) : AnyZ.SortsIn Tryz.prog Tryz.sortedT_ren Fence.wide m :=
  ⟨fun blk off cap ss W hH hblk hsz => callsIn_wide.2 (AnyM.slices_Sort_string Tryz.sortT blk off cap ss W hH hblk hsz),
   fun p cap W => callsIn_wide.2 (AnyM.slices_Sort_string_none Tryz.sortT p cap W)⟩

set_option maxHeartbeats 1000000 in
theorem paths_gen (w : World) (t o mb : Nat) (m : List (List UInt8 × Value)) (c0 : w.cell? ⟨t, o, none⟩ = some (.map (some mb))) (h : MapOf kS id w mb m) (hk : ∀ k ∈ keys m, k.length ≤ maxLen) (hl : m.length ≤ 1000000) :
    Calls Tryz.prog 238 #[.pointer (some ⟨t, o, none⟩)] w fun e w' => ∃ v, e = .returned v ∧ w'.ownsRow w.heap.size 9 1 v m.length ((sortB (keys m)).map kS) ∧ (v = .slice none 0 0 ↔ m = []) ∧ Keeps (fun _ => False) w w' := by
  obtain ⟨D0, hown, hperm, hsize⟩ := owns_str h hk (by unfold maxLen; omega)
  have hmax : Maps.size D0 ≤ maxLen := by unfold maxLen; omega
  have hbytes : Maps.size D0 * 16 ≤ 140737488355328 := by omega
  have hbl := hown.lt
  refine (callsIn_wide (n := 6)).1 ?_
  have hseq : SeqGives Fence.wide 2 Tryz.prog 355 #[.pointer (some ⟨w.heap.size, 0, none⟩)] encStr (fun ss => ss.Perm (strKeys D0)) (Maps.size D0) (w.alloc (.cells #[.map (some mb)] 264)) :=
    AnyZ.keys_gives (ρ := Tryz.keysT_ren) { Tryz.keysT with } Fence.wide _ trivial rfl (by omega) w.heap.size mb m.length D0 _ (by simp) (by simp) (by
      obtain ⟨es, clock, hb, Ft, hs, hD⟩ := hown
      exact ⟨es, clock, (Below.heap_alloc _ _ mb hbl).trans hb, Ft, hs, hD⟩)
  have cK : ∀ mb W, CallsIn Fence.wide 5 Tryz.prog 305 #[.map mb] W fun e w' => e = .returned (.func (.func 355) #[] #[.pointer (some ⟨W.heap.size, 0, none⟩)]) ∧ w' = W.alloc (.cells #[.map mb] 264) := fun mb W => AnyZ.keys_in Tryz.keysT Fence.wide 5 trivial rfl mb W
  have cS := AnyZ.sorted_in Tryz.sortedT Fence.wide 5 trivial trivial trivial trivial rfl (by omega) (sortsT _) (enters_of Tryz.func175 (by kernel_rfl) rfl) 355 #[.pointer (some ⟨w.heap.size, 0, none⟩)] trivial (enters_of Tryz.func355 (by kernel_rfl) rfl) _ _ hmax hbytes _ hseq
  change CallsIn _ _ Tryz.prog 304 _ _ _ at cS
  have hfK : Fence.wide.fn 305 := trivial
  have hfS : Fence.wide.fn 304 := trivial
  refine callsIn_of_wp Tryz.func238 rfl trivial ?_ rfl
  simp only [Tryz.ntmps238, List.size_toArray, List.length_cons, List.length_nil, Nat.reduceAdd, Nat.reduceSub, Array.replicate_succ, Array.replicate_zero, List.push_toArray, List.append_toArray, List.nil_append, List.cons_append]
  clear hown h hk
  gi_wp2_with (first
    | (gi_at_call 305; refine (cK _ _).mono ?_; rintro e w' ⟨rfl, rfl⟩)
    | (gi_at_call 304; refine cS.mono ?_; rintro e w' ⟨v, ss, rfl, hS, hrow, hnil, hb⟩))
  go_ret
  have hS2 : ss.mergeSort (fun x y => decide (x ≤ y)) = sortB (keys m) := mergeSort_of_perm (hS.trans hperm)
  have hlen : ss.length = m.length := by
    have := (hS.trans hperm).length_eq
    simpa using this
  rw [hS2, hlen] at hrow
  refine ⟨v, rfl, ownsRow_base_a hrow (by simp), hnil.trans ⟨fun e => List.eq_nil_of_length_eq_zero (by rw [← hlen, e]; rfl), fun e => List.eq_nil_of_length_eq_zero (by rw [hlen, e]; rfl)⟩, ?_⟩
  have hb2 : Below w.heap.size w w' := ((Below.refl _ w).alloc (Nat.le_refl _) _).trans (hb.mono (by simp))
  exact (Keeps.of_below hb2).mono fun k hk h => by omega

/-- what the machine's known functions need -/
theorem all_keys (w : World) (t o mb : Nat) (m : List (Int × Value)) (c0 : w.cell? ⟨t, o, none⟩ = some (.map (some mb))) (h : MapOf kI id w mb m) (hm : m = [] ∨ ∃ n : Nat, n ≤ 281474976710655 ∧ ∃ v, m = [((n : Int), v)]) :
    Calls Tryz.prog 237 #[.pointer (some ⟨t, o, none⟩)] w fun e w' => ∃ v, e = .returned v ∧ Ex.KeysPost 3 w (m.map fun p => .int .i64 p.1) v w' := by
  rcases hm with rfl | ⟨n, hn, u, rfl⟩
  · refine (all_gen w t o mb [] c0 h (by simp [keys]) (by simp)).mono ?_
    rintro e w' ⟨v, rfl, h1, h2, h3⟩
    have e0 : Is (sortI (keys ([] : List (Int × Value)))) = [] := by simp [sortI, keys, Is]
    rw [e0] at h1
    exact ⟨v, rfl, h1, h2.trans (by simp), h3⟩
  · refine (all_gen w t o mb _ c0 h (by simp [keys, Lit.wf, IntKind.min, IntKind.max, IntKind.signed, IntKind.bits]; omega) (by simp)).mono ?_
    rintro e w' ⟨v, rfl, h1, h2, h3⟩
    refine ⟨v, rfl, ?_, h2.trans (by simp), h3⟩
    have : Is (sortI (keys [((n : Int), u)])) = [((n : Int), u)].map fun p => .int .i64 p.1 := by
      simp [sortI, keys, Is]
    rw [this] at h1
    exact h1
theorem paths_keys (w : World) (t o mb : Nat) (m : List (List UInt8 × Value)) (c0 : w.cell? ⟨t, o, none⟩ = some (.map (some mb))) (h : MapOf kS id w mb m) (hm : m = [] ∨ ∃ k : List UInt8, k.length ≤ Ex.most ∧ ∃ v, m = [(k, v)]) :
    Calls Tryz.prog 238 #[.pointer (some ⟨t, o, none⟩)] w fun e w' => ∃ v, e = .returned v ∧ Ex.KeysPost 9 w (m.map fun p => .string (S p.1)) v w' := by
  rcases hm with rfl | ⟨k, hk, u, rfl⟩
  · refine (paths_gen w t o mb [] c0 h (by simp [keys]) (by simp)).mono ?_
    rintro e w' ⟨v, rfl, h1, h2, h3⟩
    have e0 : (sortB (keys ([] : List (List UInt8 × Value)))).map kS = [] := by simp [sortB, keys]
    rw [e0] at h1
    exact ⟨v, rfl, h1, h2.trans (by simp), h3⟩
  · refine (paths_gen w t o mb _ c0 h (by
      have : Ex.most = 1000000 := rfl
      simp [keys, maxLen]; omega) (by simp)).mono ?_
    rintro e w' ⟨v, rfl, h1, h2, h3⟩
    refine ⟨v, rfl, ?_, h2.trans (by simp), h3⟩
    have : (sortB (keys [(k, u)])).map kS = [(k, u)].map fun p => .string (S p.1) := by
      simp [sortB, keys]
    rw [this] at h1
    exact h1
end
end Go.Proofs.YtegafdkhbgojcaaGreatDoor.Ek
