/- Contracts of the package tree: Paths, Owned. No condition. -/
import Derived.Test.YtecpfnobnpddaaaDoorTreeE
import Derived.Shelf.SlIter.Nil
import Derived.Ground.GgzProg
set_option linter.unusedVariables false
set_option linter.unusedSimpArgs false
namespace Go.Proofs.YtecpfnobnpddaaaDoor
open Go.RowKit Go.Maps Go.Sort Go.Shelf Go.MapKept

theorem owns_tree {α : Type} {ev : α → Value} {w : World} {b : Nat} {m : List (List UInt8 × α)} (h : MapOf kS ev w b m) (hk : ∀ k ∈ keys m, k.length ≤ maxLen) (hl : m.length ≤ maxLen) :
    ∃ D0 : DataW Unit, w.ownsMap Tryd.prog 9 (fun _ => some (.nil, [])) b m.length D0 ∧ (strKeys D0).Perm (keys m) ∧ Maps.size D0 = m.length := by
  obtain ⟨es, clock, hb, hst, he⟩ := h
  have hlen : es.toList.length = m.length := by simpa using congrArg List.length he
  have hkeys : es.toList.map (·.key) = m.map fun p => kS p.1 := by
    have := congrArg (List.map (·.1)) he
    simpa [List.map_map, Function.comp_def] using this
  have hrd : ∀ x ∈ es.toList, ∃ k : List UInt8, x.key = kS k ∧ WideElems.rd Tryd.prog 9 (fun _ => some ((.nil : DataW Unit), [])) x = some (.string k, .nil) := by
    intro x hx
    have h1 : x.key ∈ m.map fun p => kS p.1 := by rw [← hkeys]; exact List.mem_map.2 ⟨x, hx, rfl⟩
    obtain ⟨p, hp, e⟩ := List.mem_map.1 h1
    refine ⟨p.1, e.symm, ?_⟩
    have hpl := hk p.1 (List.mem_map.2 ⟨p, hp, rfl⟩)
    have : keyOf Tryd.prog 9 (kS p.1) = some (.string p.1) := by
      simp [keyOf, Tryd.underlying9, mapKey, hpl]
    unfold WideElems.rd
    rw [← e, this]
    rfl
  refine ⟨_, ⟨es, clock, hb, ⟨by simp at hlen; omega, hst, fun x hx => by obtain ⟨k, _, h⟩ := hrd x hx; exact ⟨_, h⟩⟩, by simp at hlen; omega, rfl⟩, ?_, ?_⟩
  · refine ((WideShapes.sorted_perm _).map _).trans ?_
    rw [List.map_map]
    have : es.toList.map ((fun p : Lit × DataW Unit => Go.strOf p.1) ∘ WideElems.rg Tryd.prog 9 (fun _ => some (.nil, []))) = keys m := by
      have h2 : keys m = (es.toList.map (·.key)).map (fun v => match v with | .string s => s.data.toList | _ => []) := by
        rw [hkeys, List.map_map]
        apply List.map_congr_left
        intro p _
        simp [Function.comp]
      rw [h2, List.map_map]
      apply List.map_congr_left
      intro x hx
      obtain ⟨k, e, h⟩ := hrd x hx
      simp only [Function.comp, WideElems.rg, h, Option.getD_some, e]
      simp [Go.strOf]
    rw [this]
  · show ((es.toList.map (WideElems.rg Tryd.prog 9 _)).foldr DataW.insert []).length = _
    rw [length_sorted]
    simpa using hlen

/-- slices.Sort's two contracts here. -/
theorem sortsT (m : Nat) : AnyZ.SortsIn Tryd.prog Tryd.sortedT_ren Fence.wide m :=
  ⟨fun blk off cap ss W hH hblk hsz => callsIn_wide.2 (AnyM.slices_Sort_string Tryd.sortT blk off cap ss W hH hblk hsz),
   fun p cap W => callsIn_wide.2 (AnyM.slices_Sort_string_none Tryd.sortT p cap W)⟩

theorem Sat.rowNew {g w w' : World} {L : List Asn} {e : TypeId} {size n : Nat} {v : Value} {xs : List Value} (S : Sat g w L) (hk : Keeps (fun _ => False) w w') (hr : w'.ownsRow w.heap.size e size v n xs) : Sat g w' (rowA e size v n xs :: L) := by
  obtain ⟨hl, hr⟩ := hr
  rcases hr with ⟨rfl, rfl⟩ | ⟨b, cap, cur, rfl, hb, hg, q1, q2, q3, q4⟩
  · have := (S.keep hk).nilRow e size
    have h0 : xs = [] := by simpa using hl
    subst h0
    exact this
  · exact S.new hk (hone b (.cells cur e (0, 0)) true) ⟨hl, .inr ⟨b, cap, cur, rfl, q1, q2, q3, q4, rfl⟩⟩ (hone_mem hg) (fun k hk => by unfold hone; rw [if_neg (by omega)])

def pathsF (T : TreeT) : List (List UInt8) := sortB (keys T)
theorem pathsF_length (T : TreeT) : (pathsF T).length = T.length := by unfold pathsF; rw [sortB_length]; simp

set_option maxHeartbeats 1000000 in
theorem paths_row (w : World) (t mb : Nat) (m : TreeT) (c0 : w.cell? ⟨t, 0, none⟩ = some (.map (some mb))) (h : MapOf kS nodV w mb m) (hk : PathsOk m) (hl : m.length ≤ 1000000) :
    Calls Tryd.prog 35 #[ptr t] w fun e w' => ∃ v, e = .returned v ∧ w'.ownsRow w.heap.size 9 1 v m.length (Ss (pathsF m)) ∧ Keeps (fun _ => False) w w' := by
  obtain ⟨D0, hown, hperm, hsize⟩ := owns_tree h (fun k hm => by
    obtain ⟨p, hp, rfl⟩ := List.mem_map.1 hm
    have := hk p hp
    unfold maxLen
    omega) (by unfold maxLen; omega)
  have hmax : Maps.size D0 ≤ maxLen := by unfold maxLen; omega
  have hbytes : Maps.size D0 * 16 ≤ 140737488355328 := by omega
  have hbl := hown.lt
  refine (callsIn_wide (n := 6)).1 ?_
  have hseq : SeqGives Fence.wide 2 Tryd.prog 91 #[.pointer (some ⟨w.heap.size, 0, none⟩)] encStr (fun ss => ss.Perm (strKeys D0)) (Maps.size D0) (w.alloc (.cells #[.map (some mb)] 71)) :=
    AnyZ.keys_gives (ρ := Tryd.keysT_ren) { Tryd.keysT with } Fence.wide _ trivial rfl (by omega) w.heap.size mb m.length D0 _ (by simp) (by simp) (by
      obtain ⟨es, clock, hb, Ft, hs, hD⟩ := hown
      exact ⟨es, clock, (Below.heap_alloc _ _ mb hbl).trans hb, Ft, hs, hD⟩)
  have cK : ∀ mb W, CallsIn Fence.wide 5 Tryd.prog 65 #[.map mb] W fun e w' => e = .returned (.func (.func 91) #[] #[.pointer (some ⟨W.heap.size, 0, none⟩)]) ∧ w' = W.alloc (.cells #[.map mb] 71) := fun mb W => AnyZ.keys_in Tryd.keysT Fence.wide 5 trivial rfl mb W
  have cS := AnyZ.sorted_in Tryd.sortedT Fence.wide 5 trivial trivial trivial trivial rfl (by omega) (sortsT _) (enters_of Tryd.func89 (by kernel_rfl) rfl) 91 #[.pointer (some ⟨w.heap.size, 0, none⟩)] trivial (enters_of Tryd.func91 (by kernel_rfl) rfl) _ _ hmax hbytes _ hseq
  change CallsIn _ _ Tryd.prog 64 _ _ _ at cS
  have hfK : Fence.wide.fn 65 := trivial
  have hfS : Fence.wide.fn 64 := trivial
  refine callsIn_of_wp Tryd.func35 rfl trivial ?_ rfl
  simp only [Tryd.ntmps35, List.size_toArray, List.length_cons, List.length_nil, Nat.reduceAdd, Nat.reduceSub, Array.replicate_succ, Array.replicate_zero, List.push_toArray, List.append_toArray, List.nil_append, List.cons_append]
  clear hown h hk
  gi_wp2_with (first
    | (gi_at_call 65; refine (cK _ _).mono ?_; rintro e w' ⟨rfl, rfl⟩)
    | (gi_at_call 64; refine cS.mono ?_; rintro e w' ⟨v, ss, rfl, hS, hrow, hnil, hb⟩))
  go_ret
  have hS2 : ss.mergeSort (fun x y => decide (x ≤ y)) = pathsF m := mergeSort_of_perm (hS.trans hperm)
  have hlen : ss.length = m.length := by
    have := (hS.trans hperm).length_eq
    simpa using this
  rw [hS2, hlen] at hrow
  refine ⟨v, rfl, ownsRow_base_a hrow (by simp), ?_⟩
  have hb2 : Below w.heap.size w w' := ((Below.refl _ w).alloc (Nat.le_refl _) _).trans (hb.mono (by simp))
  exact (Keeps.of_below hb2).mono fun k hk h => by omega

section
variable {g w : World} {L : List Asn} {b mb x : Nat} {T : TreeT}
theorem paths_tree (S0 : Sat g w (treeA b T :: L)) (hP : PathsOk T) (hT : T.length ≤ 1000000) :
    Calls Tryd.prog 35 #[ptr b] w fun e w' => ∃ v, e = .returned v ∧ Sat g w' (rowA 9 1 v T.length (Ss (pathsF T)) :: treeA b T :: L) := by
  obtain ⟨mb, S1⟩ := S0.treeOpen
  refine (paths_row w b mb T (S1.cell 0 _ rfl) S1.p1.mapOf hP hT).mono ?_
  rintro e w' ⟨v, rfl, hr, hk⟩
  exact ⟨v, rfl, S0.rowNew hk hr⟩

def ownedF (T : TreeT) (o : Int) : List (List UInt8) := (pathsF T).filter fun s => decide (((mget T s).getD zN).owner = o ∧ o ≠ 0)
end
end Go.Proofs.YtecpfnobnpddaaaDoor
