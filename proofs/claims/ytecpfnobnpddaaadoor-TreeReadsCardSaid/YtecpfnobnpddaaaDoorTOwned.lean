/- Contracts of the package tree: Owned. No condition. -/
import Derived.Test.YtecpfnobnpddaaaDoorTPaths
import Derived.Test.YtecpfnobnpddaaaDoorTreeF
set_option linter.unusedVariables false
set_option linter.unusedSimpArgs false
namespace Go.Proofs.YtecpfnobnpddaaaDoor
open Go.RowKit

section
variable {g w : World} {L : List Asn} {b mb x : Nat} {T : TreeT}
theorem Sat.srcT {e : TypeId} {size n : Nat} {A : Option Addr} {cap : Nat} {xs : List Value} (S : Sat g w (rowA e size (.slice A n cap) n xs :: L)) : Src w size A n xs := by
  obtain ⟨A', cap', e', _, _, hsrc, _⟩ := S.row.form
  injection e' with e1 e2 e3
  subst e1
  exact hsrc
theorem str_at {n : Nat} {A : Option Addr} {xs : List (List UInt8)} (h : Src w 1 A n (Ss xs)) {k : Nat} (hk : k < n) : ∃ ad s, A = some ad ∧ xs[k]? = some s ∧ w.cell? (ad.add k) = some (.string (S s)) := by
  obtain ⟨ad, u, e, hu, hc⟩ := h.at_ hk
  unfold Ss at hu
  rw [List.getElem?_map] at hu
  cases hx : xs[k]? with
  | none => rw [hx] at hu; simp at hu
  | some s =>
    rw [hx] at hu
    simp only [Option.map_some, Option.some.injEq] at hu
    subst hu
    exact ⟨ad, s, e, rfl, hc⟩
theorem take_filter_succ {α : Type} (l : List α) (p : α → Bool) (k : Nat) (x : α) (h : l[k]? = some x) : (l.take (k + 1)).filter p = (l.take k).filter p ++ if p x = true then [x] else [] := by
  obtain ⟨hk, e⟩ := List.getElem?_eq_some_iff.1 h
  rw [List.take_succ_eq_append_getElem hk, List.filter_append, e]
  congr 1
  cases hp : p x <;> simp [hp]

set_option maxRecDepth 100000 in
set_option maxHeartbeats 4000000 in
theorem owned_tree (S0 : Sat g w (treeA b T :: L)) (hP : PathsOk T) (hT : T.length ≤ 1000000) (o : Int) :
    Calls Tryd.prog 32 #[ptr b, .int .i64 o] w fun e w' => ∃ v, e = .returned v ∧ Sat g w' (rowA 9 1 v (ownedF T o).length (Ss (ownedF T o)) :: treeA b T :: L) := by
  have hpa := paths_tree S0 hP hT
  have HF : Hid (∀ k s, (pathsF T)[k]? = some s → ((pathsF T).take (k + 1)).filter (fun s => decide (((mget T s).getD zN).owner = o ∧ o ≠ 0)) = ((pathsF T).take k).filter (fun s => decide (((mget T s).getD zN).owner = o ∧ o ≠ 0)) ++ if ((mget T s).getD zN).owner = o ∧ o ≠ 0 then [s] else []) := hide (by
    intro k s h
    rw [take_filter_succ _ _ k s h]
    simp)
  have HO : Hid (ownedF T o = (pathsF T).filter (fun s => decide (((mget T s).getD zN).owner = o ∧ o ≠ 0))) := rfl
  have hpl := pathsF_length T
  have HLE : Hid (∀ k, (((pathsF T).take k).filter (fun s => decide (((mget T s).getD zN).owner = o ∧ o ≠ 0))).length ≤ 1000000) := hide (by
    intro k
    have h1 := List.length_filter_le (fun s => decide (((mget T s).getD zN).owner = o ∧ o ≠ 0)) ((pathsF T).take k)
    have h2 : ((pathsF T).take k).length ≤ (pathsF T).length := by simp; omega
    omega)
  generalize ownedF T o = OF at *
  go_enter Tryd.func32, Tryd.ntmps32
  go_wp2_with fail
  refine hpa.mono ?_
  rintro e w1 ⟨v, rfl, S1⟩
  obtain ⟨A, c, rfl, -⟩ := S1.row.form
  obtain ⟨mb, S2⟩ := S1.p1.treeOpen
  have S3 := S2.p2
  clear S0 S1 S2 hpa hP
  generalize pathsF T = PS at *
  go_wp2_with fail
  go_loopw [5, 11] (fun u i wr => ∃ k : Nat, k ≤ T.length ∧ i = .int .i64 k ∧ Sat g wr (rowA 9 1 u ((PS.take k).filter (fun s => decide (((mget T s).getD zN).owner = o ∧ o ≠ 0))).length (Ss ((PS.take k).filter (fun s => decide (((mget T s).getD zN).owner = o ∧ o ≠ 0)))) :: rowA 9 1 (.slice A T.length c) T.length (Ss PS) :: cellsA b 73 #[.map (some mb)] :: mapA kS nodV mb T :: L)) (fun _ i _ => T.length + 1 - (RowKit.intOf i).toNat)
  case atStart => exact ⟨0, by omega, rfl, S3.nilRow _ _⟩
  case round =>
    obtain ⟨k, hk, rfl, S4⟩ := hrel
    clear S3
    by_cases hlt : k < T.length
    · obtain ⟨ad, s, rfl, hs, hc⟩ := str_at S4.p1.srcT hlt
      have hf := HF.out k s hs
      have hle := HLE.out k
      have hk0 : (0 : Int) ≤ (k : Int) := by omega
      have hk1 : (k : Int) < (T.length : Int) := by omega
      have c0 := S4.p2.cell 0 _ rfl
      have hl := look_get S4.p3 s
      obtain ⟨B2, c2, rfl, -⟩ := S4.row.form
      have HF2 := hide hf
      clear hf HF HLE
      generalize (mget T s).getD zN = n at hl HF2
      generalize hFL : (PS.take k).filter (fun s => decide (((mget T s).getD zN).owner = o ∧ o ≠ 0)) = FL at *
      clear hFL hs
      obtain ⟨d, ve, bl, ow, md, st, sr⟩ := n
      simp only at HF2
      have hfield : ∀ w', (Instr.field 30 (.agg #[.string (S d), .int .i64 ve, .int .i64 bl, .int .i64 ow, .int .i64 md, .int .i64 st, .int .i64 sr]) 3).run Tryd.prog w' = .ok (.int .i64 ow) w' := fun w' => by kernel_rfl
      by_cases h1 : ow = o
      · subst h1
        by_cases h2 : ow = 0
        · subst h2
          have hf := HF2.out
          rw [if_neg (by simp), List.append_nil] at hf
          have HF3 := hide hf
          clear hf HF2
          go_wp2_with fail
          go_roundw
          case rel => exact ⟨k + 1, by omega, by go_num, by rw [HF3.out]; exact S4⟩
          case measure => simp [RowKit.intOf]; omega
        · have hf := HF2.out
          rw [if_pos ⟨rfl, h2⟩] at hf
          have HF3 := hide hf
          have h2b : (ow != 0) = true := by simpa using h2
          have h3 : (ow == ow) = true := by simp
          clear hf HF2
          go_wp2_with (at_builtin; refine wpList_sapp slStr rfl (.tmp 28) (.tmp 30) rfl (g := g) (S := (S4.box #[.string (S s)] 9 rfl).p1) rfl (Src.block (heap_alloc_new _ _) 1 1 rfl) rfl (by simp [Value.oneCell']) (by unfold maxLen; omega) (by omega) ?_; intro A5 c5 w5 S5)
          go_roundw
          case rel =>
            refine ⟨k + 1, by omega, by go_num, ?_⟩
            rw [HF3.out]
            have := S5.p1.drop
            simpa [Ss] using this
          case measure => simp [RowKit.intOf]; omega
      · have hf := HF2.out
        rw [if_neg (by simp [h1]), List.append_nil] at hf
        have HF3 := hide hf
        have h3 : (ow == o) = false := by simpa using h1
        clear hf HF2
        go_wp2_with fail
        go_roundw
        case rel => exact ⟨k + 1, by omega, by go_num, by rw [HF3.out]; exact S4⟩
        case measure => simp [RowKit.intOf]; omega
    · obtain rfl : k = T.length := by omega
      have e : PS.take T.length = PS := by rw [← hpl, List.take_length]
      rw [e, ← HO.out] at S4
      have HS := hide (S4.p1.drop.p2.p2.treeShut.p1)
      clear S4 HF HLE
      go_wp2_with fail
      go_ret
      exact ⟨_, rfl, HS.out⟩
end
end Go.Proofs.YtecpfnobnpddaaaDoor
