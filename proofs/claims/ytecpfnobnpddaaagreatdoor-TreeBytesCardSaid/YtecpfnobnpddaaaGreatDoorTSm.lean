/- The statements of layer 9: whether a tree has what its model has. No condition. -/
import Derived.Test.YtecpfnobnpddaaaGreatDoorTDo
set_option linter.unusedVariables false
set_option linter.unusedSimpArgs false
namespace Go.Proofs.YtecpfnobnpddaaaGreatDoor
open Go.RowKit

theorem Mod.getF_at {T M : TreeT} {n : Nat} (h : Mod T M n) {k : Nat} {p : List UInt8 × NodeT} (hp : M[k]? = some p) : Go.Proofs.YtecpfnobnpddaaaGreatDoor.getF T p.1 = (p.2, 0) := by
  have hm := List.mem_of_getElem? hp
  have hk : p.1 ∈ keys M := List.mem_map.2 ⟨p, hm, rfl⟩
  unfold Go.Proofs.YtecpfnobnpddaaaGreatDoor.getF
  rw [if_pos (h.ok _ hk).1, h.get, mget_some h.nodup (show (p.1, p.2) ∈ M from hm)]
set_option maxRecDepth 100000 in
set_option maxHeartbeats 8000000 in
theorem same_tm {g w : World} {L : List Asn} {b mb : Nat} {T M : TreeT} {n : Nat} (S0 : Sat g w (treeA b T :: modA mb M :: L)) (hG : GL g) (hm : oldA g ∈ L) (h : Mod T M n) :
    Calls Tryz.prog 23 #[ptr b, ptr mb] w fun e w' => e = .returned (.bool true) ∧ Sat g w' (treeA b T :: modA mb M :: L) := by
  have hlT := h.len_eq
  have hlM := h.len
  have hpa := paths_tree S0 h.pathsT (by omega)
  rw [h.pathsF, hlT] at hpa
  have HGET : Hid (∀ (k : Nat) (p : List UInt8 × NodeT), M[k]? = some p → Go.Proofs.YtecpfnobnpddaaaGreatDoor.getF T p.1 = (p.2, 0)) := hide fun k p hp => h.getF_at hp
  have HPL : Hid (∀ (k : Nat) (p : List UInt8 × NodeT), M[k]? = some p → p.1.length ≤ 1000) := hide fun k p hp => h.paths p (List.mem_of_getElem? hp)
  have HKS : Hid (∀ (k : Nat) (p : List UInt8 × NodeT), M[k]? = some p → (keys M)[k]? = some p.1) := hide fun k p hp => by simp [keys, hp]
  have HGL : Hid (∀ {w : World} {L' : List Asn}, Sat g w L' → oldA g ∈ L' → GL w) := fun S h => hG.at S h
  have HM := hide hm
  have HLT := hide hlT
  generalize keys M = KS at *
  clear hG hm h
  go_enter Tryz.func23, Tryz.ntmps23
  go_wp2_with fail
  refine hpa.mono ?_
  rintro e w1 ⟨v, rfl, S1⟩
  obtain ⟨A2, c2, rfl, -⟩ := S1.row.form
  obtain ⟨A, c, S2⟩ := S1.p2.modOpen
  have S3 : Sat g w1 (rowA 9 1 (.slice A2 M.length c2) M.length (Ss KS) :: treeA b T :: cellsA mb 69 #[.slice A M.length c] :: rowA 71 8 (.slice A M.length c) M.length (M.flatMap entC) :: L) := S2.p3.p3
  clear S0 S1 S2 hpa
  have c0 := S3.p2.cell 0 _ rfl
  have HLEN : Hid (∀ {w : World} {L' : List Asn}, Sat g w (treeA b T :: L') → Calls Tryz.prog 29 #[ptr b] w fun e w' => e = .returned (.int .i64 M.length) ∧ Sat g w' (treeA b T :: L')) := hide fun S' => by
    have := len_tree S'
    rwa [HLT.out] at this
  go_upto_region 2 with fail
  go_region_held3 (fun w' => w'.cell? ⟨mb, 0, none⟩ = some (.slice A M.length c)) (first
    | (go_keep; done)
    | exact S4.p2.cell 0 _ rfl
    | exact S3.p2.cell 0 _ rfl
    | exact S3.drew.p2.cell 0 _ rfl) (first
    | (go_at_call 29; refine (HLEN.out (by (repeat (first | refine Sat.drew ?_ | refine Sat.drewN ?_ _)); exact S3.p1)).mono ?_; rintro e w4 ⟨rfl, S4⟩; have c0 := S4.p2.cell 0 _ rfl))
  all_goals
    clear S3 HLEN
    have S5 := S4.p1
    clear S4
    go_wp2_with fail
    go_loopw [35] (fun i wr => ∃ k : Nat, k ≤ M.length ∧ i = .int .i64 k ∧ Sat g wr (rowA 9 1 (.slice A2 M.length c2) M.length (Ss KS) :: treeA b T :: cellsA mb 69 #[.slice A M.length c] :: rowA 71 8 (.slice A M.length c) M.length (M.flatMap entC) :: L)) (fun i _ => M.length + 1 - (RowKit.intOf i).toNat)
    case atStart => exact ⟨0, by omega, rfl, S5⟩
    case round =>
      obtain ⟨k, hk, rfl, S6⟩ := hrel
      clear S5 c0
      by_cases hlt : k < M.length
      · have hk0 : (0 : Int) ≤ (k : Int) := by omega
        have hk1 : (k : Int) < (M.length : Int) := by omega
        obtain ⟨ad, p, rfl, hp, d0, d1, d2, d3, d4, d5, d6, d7⟩ := ent_at S6.p3.srcT rfl hlt
        have hget := HGET.out k p hp
        have hpl := HPL.out k p hp
        have HKP := hide (HKS.out k p hp)
        clear hp
        go_upto_region 7 with fail
        have S7 := S6.box (entA p) 71 rfl
        generalize wr.alloc (.cells (entA p) 71) = w7 at *
        generalize wr.heap.size = xb at *
        have x0 := S7.cell 0 _ rfl
        clear S6 d0 d1 d2 d3 d4 d5 d6 d7
        have hgt := get_tree S7.p2 (HGL.out S7 (by simp [HM.out])) p.1 (by omega)
        rw [hget] at hgt
        go_wp2_with fail
        refine hgt.mono ?_
        rintro e w8 ⟨rfl, S8⟩
        clear hgt S7 x0 hget
        go_upto_region 8 with fail
        have S9 := S8.box (nodC p.2) 62 rfl
        generalize w8.alloc (.cells (nodC p.2) 62) = w9 at *
        generalize w8.heap.size = yb at *
        have S10 := S9.p3
        clear S8 S9
        obtain ⟨ad2, s2, rfl, hs2, hc2⟩ := str_at S10.srcT hlt
        obtain rfl : p.1 = s2 := by rw [HKP.out] at hs2; exact Option.some.inj hs2
        obtain ⟨pp, ⟨d, ve, bl, ow, md, st, sr⟩⟩ := p
        obtain ⟨a0, a1, a2, a3, a4, a5, a6⟩ := S10.p1.nod
        have e0 := S10.p3.cell 0 _ rfl
        have e1 := S10.p3.cell 1 _ rfl
        have e2 := S10.p3.cell 2 _ rfl
        have e3 := S10.p3.cell 3 _ rfl
        have e4 := S10.p3.cell 4 _ rfl
        have e5 := S10.p3.cell 5 _ rfl
        have e6 := S10.p3.cell 6 _ rfl
        have e7 := S10.p3.cell 7 _ rfl
        have hne : ∀ w', (binOp .neq 62 (nodV ⟨d, ve, bl, ow, md, st, sr⟩) (nodV ⟨d, ve, bl, ow, md, st, sr⟩)).run Tryz.prog w' = .ok (.bool false) w' := fun w' => by
          have := neq_nod w' ⟨d, ve, bl, ow, md, st, sr⟩ ⟨d, ve, bl, ow, md, st, sr⟩
          rwa [decide_eq_true rfl] at this
        simp only [nodV] at hne
        simp only at hc2 e0 e1 e2 e3 e4 e5 e6 e7
        have hpp : (pp != pp) = false := by simp
        clear hs2
        go_quiet (fail)
        go_wp2_with fail
        go_roundw
        case rel => exact ⟨k + 1, by omega, by go_num, by have := S10.p3.drop.p1.drop; (repeat (first | exact this | refine Sat.drew ?_ | refine Sat.drewN ?_ _))⟩
        case measure => simp [RowKit.intOf]; omega
      · obtain rfl : k = M.length := by omega
        have HS := hide (S6.drop.b2.modShut.p1)
        clear S6
        go_wp2_with fail
        go_ret
        exact ⟨rfl, HS.out⟩
end Go.Proofs.YtecpfnobnpddaaaGreatDoor
