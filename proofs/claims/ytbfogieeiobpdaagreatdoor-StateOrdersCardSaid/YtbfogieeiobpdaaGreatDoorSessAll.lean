/- Contracts of the package sess: all sessions' numbers, in order. No condition. -/
import Derived.Test.YtbfogieeiobpdaaGreatDoorSess
import Derived.Shelf.SlIterI.Nil
import Derived.Shelf.SortM.Plain
import Derived.Shelf.SortM.SortNone
import Derived.Ground.GgzProg
import Derived.Ground.SlgmProg
import Derived.Test.YtbfogieeiobpdaaGreatDoorLays
set_option linter.unusedVariables false
namespace Go.Proofs.YtbfogieeiobpdaaGreatDoor
open Go.RowKit Go.Maps Go.Sort Go.Shelf Go.MapKept



/-- the numbers, in order -/
def sortI (l : List Int) : List Int := l.mergeSort fun x y => decide (x ≤ y)

theorem MapOf.owns {α : Type} {ev : α → Value} {w : World} {b : Nat} {m : List (Int × α)} (h : MapOf kI ev w b m) (hk : ∀ k ∈ keys m, (Lit.int .i64 k).wf = true) (hl : m.length ≤ maxLen) :
    ∃ D0 : DataW Unit, w.ownsMap Tryz.prog 3 (fun _ => some (.nil, [])) b m.length D0 ∧ (intKeys D0).Perm (keys m) ∧ Maps.size D0 = m.length := by
  obtain ⟨es, clock, hb, hst, he⟩ := h
  have hlen : es.toList.length = m.length := by simpa using congrArg List.length he
  have hkeys : es.toList.map (·.key) = m.map fun p => kI p.1 := by
    have := congrArg (List.map (·.1)) he
    simpa [List.map_map, Function.comp_def] using this
  have hrd : ∀ x ∈ es.toList, ∃ k : Int, x.key = kI k ∧ WideElems.rd Tryz.prog 3 (fun _ => some ((.nil : DataW Unit), [])) x = some (.int .i64 k, .nil) := by
    intro x hx
    have h1 : x.key ∈ m.map fun p => kI p.1 := by rw [← hkeys]; exact List.mem_map.2 ⟨x, hx, rfl⟩
    obtain ⟨p, hp, e⟩ := List.mem_map.1 h1
    refine ⟨p.1, e.symm, ?_⟩
    have := Maps.keyOf_int_mk (P := Tryz.prog) Tryz.underlying3 (hk p.1 (List.mem_map.2 ⟨p, hp, rfl⟩))
    unfold WideElems.rd
    rw [← e, this]
    rfl
  refine ⟨_, ⟨es, clock, hb, ⟨by simp at hlen; omega, hst, fun x hx => by obtain ⟨k, _, h⟩ := hrd x hx; exact ⟨_, h⟩⟩, by simp at hlen; omega, rfl⟩, ?_, ?_⟩
  · refine ((WideShapes.sorted_perm _).map _).trans ?_
    rw [List.map_map]
    have : es.toList.map ((fun p : Lit × DataW Unit => Go.intOf p.1) ∘ WideElems.rg Tryz.prog 3 (fun _ => some (.nil, []))) = keys m := by
      have h2 : keys m = (es.toList.map (·.key)).map RowKit.intOf := by
        rw [hkeys, List.map_map]
        rfl
      rw [h2, List.map_map]
      apply List.map_congr_left
      intro x hx
      obtain ⟨k, e, h⟩ := hrd x hx
      simp only [Function.comp, WideElems.rg, h, Option.getD_some, e]
      rfl
    rw [this]
  · show ((es.toList.map (WideElems.rg Tryz.prog 3 _)).foldr DataW.insert []).length = _
    rw [length_sorted]
    simpa using hlen

/-- slices.Sort's two contracts here. -/
theorem sortsA (m : Nat) : AnyZI.SortsIn Tryz.prog Tryz.sortedA_ren Fence.wide m :=
  ⟨fun blk off cap ss W hH hblk hsz => callsIn_wide.2 (AnyM.slices_Sort_int Tryz.sortA blk off cap ss W hH hblk hsz),
   fun p cap W => callsIn_wide.2 (AnyM.slices_Sort_int_none Tryz.sortA p cap W)⟩

set_option maxHeartbeats 1000000 in
theorem all_row (w : World) (t mb : Nat) (m : Tab) (h : Tb w t mb m) (hk : ∀ k ∈ keys m, 1 ≤ k ∧ k ≤ 281474976710655) (hl : m.length ≤ 1000000) :
    Calls Tryz.prog 110 #[ptr t] w fun e w' => ∃ v, e = .returned v ∧ w'.ownsRow w.heap.size 3 1 v m.length (Is (sortI (keys m))) ∧ Keeps (fun _ => False) w w' := by
  obtain ⟨D0, hown, hperm, hsize⟩ := h.map.owns (fun k hm => by obtain ⟨h1, h2⟩ := hk k hm; simp [Lit.wf, IntKind.min, IntKind.max, IntKind.signed, IntKind.bits]; omega) (by unfold maxLen; omega)
  have hmax : Maps.size D0 ≤ maxLen := by unfold maxLen; omega
  have hbytes : Maps.size D0 * 8 ≤ 140737488355328 := by omega
  have c0 := h.c0
  have hbl := hown.lt
  refine (callsIn_wide (n := 6)).1 ?_
  have hseq : SeqGives Fence.wide 2 Tryz.prog 162 #[.pointer (some ⟨w.heap.size, 0, none⟩)] encZ (fun ss => ss.Perm (intKeys D0)) (Maps.size D0) (w.alloc (.cells #[.map (some mb)] 166)) :=
    AnyZI.keys_gives (ρ := Tryz.keysA_ren) { Tryz.keysA with } Fence.wide _ trivial rfl (by omega) w.heap.size mb m.length D0 _ (by simp) (by simp) (by
      obtain ⟨es, clock, hb, Ft, hs, hD⟩ := hown
      exact ⟨es, clock, (Below.heap_alloc _ _ mb hbl).trans hb, Ft, hs, hD⟩)
  have cK : ∀ mb W, CallsIn Fence.wide 5 Tryz.prog 142 #[.map mb] W fun e w' => e = .returned (.func (.func 162) #[] #[.pointer (some ⟨W.heap.size, 0, none⟩)]) ∧ w' = W.alloc (.cells #[.map mb] 166) := fun mb W => AnyZI.keys_in Tryz.keysA Fence.wide 5 trivial rfl mb W
  have cS := AnyZI.sorted_in Tryz.sortedA Fence.wide 5 trivial trivial trivial trivial rfl (by omega) (sortsA _) (enters_of Tryz.func55 (by kernel_rfl) rfl) 162 #[.pointer (some ⟨w.heap.size, 0, none⟩)] trivial (enters_of Tryz.func162 (by kernel_rfl) rfl) _ _ hmax hbytes _ hseq
  change CallsIn _ _ Tryz.prog 141 _ _ _ at cS
  have hfK : Fence.wide.fn 142 := trivial
  have hfS : Fence.wide.fn 141 := trivial
  refine callsIn_of_wp Tryz.func110 rfl trivial ?_ rfl
  simp only [Tryz.ntmps110, List.size_toArray, List.length_cons, List.length_nil, Nat.reduceAdd, Nat.reduceSub, Array.replicate_succ, Array.replicate_zero, List.push_toArray, List.append_toArray, List.nil_append, List.cons_append]
  clear hown h hk
  gi_wp2_with (first
    | (gi_at_call 142; refine (cK _ _).mono ?_; rintro e w' ⟨rfl, rfl⟩)
    | (gi_at_call 141; refine cS.mono ?_; rintro e w' ⟨v, ss, rfl, hS, hrow, hnil, hb⟩))
  go_ret
  have hS2 : ss.mergeSort (fun x y => decide (x ≤ y)) = sortI (keys m) := mergeSort_of_perm_i (hS.trans hperm)
  have hlen : ss.length = m.length := by
    have := (hS.trans hperm).length_eq
    simpa using this
  rw [hS2, hlen] at hrow
  refine ⟨v, rfl, ownsRow_base_a hrow (by simp), ?_⟩
  have hb2 : Below w.heap.size w w' := ((Below.refl _ w).alloc (Nat.le_refl _) _).trans (hb.mono (by simp))
  exact (Keeps.of_below hb2).mono fun k hk h => by omega

theorem all_sess (w : World) (t mb : Nat) (m : Tab) (h : Tb w t mb m) (hk : ∀ k ∈ keys m, 1 ≤ k ∧ k ≤ 281474976710655) (hl : m.length ≤ 1000000) :
    Calls Tryz.prog 110 #[ptr t] w fun e w' => ∃ A cap, e = .returned (.slice A m.length cap) ∧ Src w' 1 A m.length (Is (sortI (keys m))) ∧ Keeps (fun _ => False) w w' := by
  refine (all_row w t mb m h hk hl).mono ?_
  rintro e w' ⟨v, rfl, hrow, hk⟩
  have hrow' : Row w' 3 1 v m.length (Is (sortI (keys m))) := by
    refine ⟨hrow.1, ?_⟩
    rcases hrow.2 with h | ⟨g, cap, cur, e1, e2, r⟩
    · exact .inl h
    · exact .inr ⟨g, cap, cur, e1, Nat.zero_le _, r⟩
  obtain ⟨A, cap, rfl, _, _, hsrc, _⟩ := hrow'.form
  exact ⟨A, cap, rfl, hsrc, hk⟩
theorem all_nil (w : World) : Calls Tryz.prog 110 #[.pointer none] w fun e w' => e = .returned (.slice none 0 0) ∧ w = w' := by
  go_enter Tryz.func110, Tryz.ntmps110
  go_wp2_with fail
  go_ret
  exact ⟨rfl, rfl⟩

end Go.Proofs.YtbfogieeiobpdaaGreatDoor
