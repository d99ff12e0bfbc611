/- The statements' own helpers over the package op, second part: the page's rule for operations and commands; few operations. No condition. -/
import Derived.Test.YtcnehacblodiaaaDoorHeado
set_option linter.unusedVariables false
namespace Go.Proofs.YtcnehacblodiaaaDoor
open Go.RowKit

set_option maxRecDepth 100000 in
theorem rule_op (w : World) (o : OpT) (ho : OpOk o) :
    Calls Tryd.prog 50 #[opV o] w fun e w' => e = .returned (.bool (opR o)) ∧ Keeps (fun _ => False) w w' := by
  obtain ⟨does, path, data, version, serial, own⟩ := o
  obtain ⟨hp, hd⟩ := ho
  simp only at hp hd
  go_enter Tryd.func50, Tryd.ntmps50
  go_wp2_with fail
  all_goals
    go_ret
    refine ⟨congrArg (fun b => Ending.returned (.bool b)) ?_, (Keeps.refl _ w).alloc _⟩
    rw [Bool.eq_iff_iff]
    simp [opR]
    try omega

set_option maxRecDepth 100000 in
set_option maxHeartbeats 1000000 in
theorem rule_cmd (w : World) (c : CmdT) (A : Option Addr) (cap : Nat) (h : OpSrc w A c.ops) (hok : CmdOk c) :
    Calls Tryd.prog 16 #[cmdV c A cap] w fun e w' => e = .returned (.bool (cmdR c)) ∧ Keeps (fun _ => False) w w' := by
  obtain ⟨kind, session, req, noted, ops, path, kids, once⟩ := c
  obtain ⟨hp, hl, ho⟩ := hok
  simp only at h hp hl ho
  have HO := hide ho
  clear ho
  go_enter Tryd.func16, Tryd.ntmps16
  go_wp2_with fail
  have HC := hide (Blk.new (w := w) (cs := #[.int .i64 kind, .int .i64 session, .int .i64 req, .int .i64 noted, .slice A ops.length cap, .string (S path), .bool kids, .bool once]) (e := 25) rfl)
  have HK0 := hide ((Keeps.refl (fun _ => False) w).alloc (.cells #[.int .i64 kind, .int .i64 session, .int .i64 req, .int .i64 noted, .slice A ops.length cap, .string (S path), .bool kids, .bool once] 25))
  go_loopw [10] (fun i wr => ∃ k : Nat, k ≤ ops.length ∧ i = .int .i64 k ∧ (∀ o ∈ ops.take k, opR o = true) ∧ Blk wr w.heap.size 25 #[.int .i64 kind, .int .i64 session, .int .i64 req, .int .i64 noted, .slice A ops.length cap, .string (S path), .bool kids, .bool once] ∧ Keeps (fun _ => False) w wr) (fun i _ => ops.length - (intOf i).toNat)
  case atStart => exact ⟨0, by omega, rfl, by simp, HC.out, HK0.out⟩
  case round =>
    obtain ⟨k, hk, rfl, hall, hC, hK⟩ := hrel
    clear HC HK0
    have HA := hide hall
    have HC := hide hC
    have HK := hide hK
    clear hall hC hK
    by_cases hlt : k < ops.length
    · obtain ⟨ad, o, rfl, hx, c0, c1, c2, c3, c4, c5⟩ := ops_at (h.keep HK.out (fun _ _ h => h)) hlt
      have HX := hide hx
      have hok := HO.out o (List.mem_of_getElem? hx)
      clear hx
      go_wp2_with fail
      refine (rule_op _ o hok).mono ?_
      cases hr : opR o
      · have HR := hide hr
        clear hr
        rintro e w1 ⟨rfl, hk1⟩
        go_wp2_with fail
        go_ret
        have e1 : cmdR ⟨kind, session, req, noted, ops, path, kids, once⟩ = false := by
          cases hc : cmdR ⟨kind, session, req, noted, ops, path, kids, once⟩
          · rfl
          · have := (cmdR_of hc).2.2.2.2.1 o (List.mem_of_getElem? HX.out)
            rw [HR.out] at this
            cases this
        exact ⟨by rw [e1]; rfl, (HK.out.alloc _).trans' hk1⟩
      · have HR := hide hr
        clear hr
        rintro e w1 ⟨rfl, hk1⟩
        have HC1 := hide ((HC.out.alloc _).kept hk1 (fun h => h))
        have HK1 := hide ((HK.out.alloc _).trans' hk1)
        clear hk1
        go_wp2_with fail
        go_roundw
        case rel =>
          refine ⟨k + 1, by omega, by go_num, ?_, HC1.out, HK1.out⟩
          obtain ⟨hk', rfl⟩ := List.getElem?_eq_some_iff.1 HX.out
          rw [List.take_succ_eq_append_getElem hk']
          intro b hb
          rcases List.mem_append.1 hb with hb | hb
          · exact HA.out b hb
          · simp at hb; subst hb; exact HR.out
        case measure => simp [intOf]; omega
    · obtain rfl : k = ops.length := by omega
      rw [List.take_length] at HA
      have q1 : wr.cell? ⟨w.heap.size, 1, none⟩ = some (.int .i64 session) := HC.out.cell 1 _ rfl
      have q2 : wr.cell? ⟨w.heap.size, 2, none⟩ = some (.int .i64 req) := HC.out.cell 2 _ rfl
      have q3 : wr.cell? ⟨w.heap.size, 3, none⟩ = some (.int .i64 noted) := HC.out.cell 3 _ rfl
      go_wp2_with fail
      have HC2 := hide (HC.out.alloc (.cells #[.int .i64 session, .int .i64 req, .int .i64 noted] 3))
      have HK2 := hide (HK.out.alloc (.cells #[.int .i64 session, .int .i64 req, .int .i64 noted] 3))
      have HN := hide (Src.block (heap_alloc_new wr (.cells #[.int .i64 session, .int .i64 req, .int .i64 noted] 3)) 1 3 rfl)
      clear HC HK q1 q2 q3
      obtain ⟨g, hg⟩ : ∃ g, g = wr.heap.size := ⟨_, rfl⟩
      rw [← hg]
      have HG := hide hg
      clear hg
      go_loopw [26] (fun i wq => ∃ k : Nat, k ≤ 3 ∧ i = .int .i64 k ∧ (∀ n ∈ [session, req, noted].take k, 0 ≤ n ∧ n ≤ 281474976710655) ∧ Src wq 1 (some ⟨g, 0, none⟩) 3 (Is [session, req, noted]) ∧ Blk wq w.heap.size 25 #[.int .i64 kind, .int .i64 session, .int .i64 req, .int .i64 noted, .slice A ops.length cap, .string (S path), .bool kids, .bool once] ∧ Keeps (fun _ => False) w wq) (fun i _ => 3 - (intOf i).toNat)
      case atStart => exact ⟨0, by omega, rfl, by simp, (by rw [HG.out]; exact HN.out), HC2.out, HK2.out⟩
      case round =>
        obtain ⟨k, hk3, rfl, hall, hN, hC, hK⟩ := hrel
        clear HC2 HK2 HN
        have HB := hide hall
        have HC := hide hC
        have HK := hide hK
        have HN := hide hN
        clear hall hC hK hN
        by_cases hlt3 : k < 3
        · obtain ⟨u, hu, hc⟩ := HN.out.at0 hlt3
          simp only [Is, List.getElem?_map, Option.map_eq_some_iff] at hu
          obtain ⟨x, hx, rfl⟩ := hu
          have HX := hide hx
          clear hx
          go_wp2_with fail
          all_goals first
            | (go_ret
               have e1 : cmdR ⟨kind, session, req, noted, ops, path, kids, once⟩ = false := by
                 cases hc : cmdR ⟨kind, session, req, noted, ops, path, kids, once⟩
                 · rfl
                 · have h3 := (cmdR_of hc).2.2.1
                   simp only [numR, decide_eq_true_eq] at h3
                   have hm := List.mem_of_getElem? HX.out
                   simp at hm
                   rcases hm with rfl | rfl | rfl <;> omega
               exact ⟨by rw [e1]; rfl, HK.out⟩)
            | (go_roundw
               case rel =>
                 refine ⟨k + 1, by omega, by go_num, ?_, HN.out, HC.out, HK.out⟩
                 obtain ⟨hk', e⟩ := List.getElem?_eq_some_iff.1 HX.out
                 rw [List.take_succ_eq_append_getElem hk', e]
                 intro b hb
                 rcases List.mem_append.1 hb with hb | hb
                 · exact HB.out b hb
                 · simp at hb; subst hb; omega
               case measure => simp [intOf]; omega)
        · obtain rfl : k = 3 := by omega
          have q0 : wr.cell? ⟨w.heap.size, 0, none⟩ = some (.int .i64 kind) := HC.out.cell 0 _ rfl
          have q4 : wr.cell? ⟨w.heap.size, 4, none⟩ = some (.slice A ops.length cap) := HC.out.cell 4 _ rfl
          have q5 : wr.cell? ⟨w.heap.size, 5, none⟩ = some (.string (S path)) := HC.out.cell 5 _ rfl
          have e1 : numR ⟨kind, session, req, noted, ops, path, kids, once⟩ = true := by
            have := HB.out
            simp at this
            simp [numR, this]
          have e2 : wrongF ops = false := by
            unfold wrongF
            rw [List.any_eq_false]
            intro b hb
            have := HA.out b hb
            simp [this]
          have E1 := hide e1
          have E2 := hide e2
          clear e1 e2
          go_wp2_with fail
          all_goals
            go_ret
            refine ⟨congrArg (fun b => Ending.returned (.bool b)) ?_, HK.out⟩
            rw [Bool.eq_iff_iff]
            simp [cmdR, E1.out, E2.out]
            try omega

set_option maxRecDepth 100000 in
set_option maxHeartbeats 1000000 in
theorem few_cmd (w : World) (c : CmdT) (A : Option Addr) (cap : Nat) (h : OpSrc w A c.ops) (hok : CmdOk c) :
    Calls Tryd.prog 13 #[cmdV c A cap] w fun e w' => (e = .returned (.bool false) ∨ (e = .returned (.bool true) ∧ c.ops.length ≤ 10 ∧ c.path.length ≤ 200)) ∧ Keeps (fun _ => False) w w' := by
  obtain ⟨kind, session, req, noted, ops, path, kids, once⟩ := c
  obtain ⟨hp, hl, ho⟩ := hok
  simp only at h hp hl ho
  have HO := hide ho
  clear ho
  go_enter Tryd.func13, Tryd.ntmps13
  go_wp2_with fail
  have HC := hide (Blk.new (w := w) (cs := #[.int .i64 kind, .int .i64 session, .int .i64 req, .int .i64 noted, .slice A ops.length cap, .string (S path), .bool kids, .bool once]) (e := 25) rfl)
  have HK0 := hide ((Keeps.refl (fun _ => False) w).alloc (.cells #[.int .i64 kind, .int .i64 session, .int .i64 req, .int .i64 noted, .slice A ops.length cap, .string (S path), .bool kids, .bool once] 25))
  go_loopw [8] (fun i wr => ∃ k : Nat, k ≤ ops.length ∧ i = .int .i64 k ∧ Blk wr w.heap.size 25 #[.int .i64 kind, .int .i64 session, .int .i64 req, .int .i64 noted, .slice A ops.length cap, .string (S path), .bool kids, .bool once] ∧ Keeps (fun _ => False) w wr) (fun i _ => ops.length - (intOf i).toNat)
  case atStart => exact ⟨0, by omega, rfl, HC.out, HK0.out⟩
  case round =>
    obtain ⟨k, hk, rfl, hC, hK⟩ := hrel
    clear HC HK0
    have HC := hide hC
    have HK := hide hK
    clear hC hK
    by_cases hlt : k < ops.length
    · obtain ⟨ad, o, rfl, hx, c0, c1, c2, c3, c4, c5⟩ := ops_at (h.keep HK.out (fun _ _ h => h)) hlt
      obtain ⟨odoes, opath, odata, over, oser, oown⟩ := o
      obtain ⟨hop, hod⟩ := HO.out _ (List.mem_of_getElem? hx)
      simp only at hop hod c0 c1 c2 c3 c4 c5
      clear hx
      go_wp2_with fail
      all_goals first
        | (go_ret
           exact ⟨.inl rfl, HK.out.alloc _⟩)
        | (go_roundw
           case rel => exact ⟨k + 1, by omega, by go_num, HC.out.alloc _, HK.out.alloc _⟩
           case measure => simp [intOf]; omega)
    · obtain rfl : k = ops.length := by omega
      have q4 : wr.cell? ⟨w.heap.size, 4, none⟩ = some (.slice A ops.length cap) := HC.out.cell 4 _ rfl
      have q5 : wr.cell? ⟨w.heap.size, 5, none⟩ = some (.string (S path)) := HC.out.cell 5 _ rfl
      go_wp2_with fail
      all_goals
        go_ret
        first
          | exact ⟨.inl rfl, HK.out⟩
          | exact ⟨.inr ⟨rfl, by omega, by omega⟩, HK.out⟩
          | (refine ⟨?_, HK.out⟩
             by_cases hd : path.length ≤ 200
             · exact .inr ⟨congrArg (fun b => Ending.returned (.bool b)) (by simp; omega), by omega, hd⟩
             · exact .inl (congrArg (fun b => Ending.returned (.bool b)) (by simp; omega)))

end Go.Proofs.YtcnehacblodiaaaDoor
