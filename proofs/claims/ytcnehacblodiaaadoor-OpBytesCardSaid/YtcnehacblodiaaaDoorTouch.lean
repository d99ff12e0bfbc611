/- Contracts of the package op: whether a command's operations are on paths that may be. No condition. -/
import Derived.Test.YtcnehacblodiaaaDoorCmds
import Derived.Test.YtcnehacblodiaaaDoorPath
set_option linter.unusedVariables false
namespace Go.Proofs.YtcnehacblodiaaaDoor
open Go.RowKit

def touchF (o : OpT) : Bool := decide (checkF o.path = 0)

theorem check_eq (w : World) (s : List UInt8) (hs : s.length ≤ 9223372036854775807) (hG : GL w) {x : Int} (hx : checkF s = x) :
    Calls Tryd.prog 20 #[.string (S s)] w fun e w' => e = .returned (.int .i64 x) ∧ Keeps (fun _ => False) w w' := by
  rw [← hx]
  exact check_path w s hs hG

theorem not_touch (w : World) (o : OpT) (ho : OpOk o) (hG : GL w) :
    Calls Tryd.prog 58 #[opV o] w fun e w' => e = .returned (.bool (!touchF o)) ∧ Keeps (fun _ => False) w w' := by
  have HT : Hid (touchF o = decide (checkF o.path = 0)) := rfl
  obtain ⟨does, path, data, version, serial, own⟩ := o
  have hr := fun w hG => check_path w path ho.1 hG
  have HG := hide (hG.keep ((Keeps.refl (fun _ => False) w).alloc (.cells #[.int .i64 does, .string (S path), .string (S data), .int .i64 version, .bool serial, .bool own] 35)) (fun h => h))
  simp only at hr HT ⊢
  generalize touchF _ = T at *
  generalize checkF path = x at *
  have HR := hide hr
  clear ho hr hG
  go_enter Tryd.func58, Tryd.ntmps58
  go_wp2_with fail
  refine (HR.out _ HG.out).mono ?_
  rintro e w1 ⟨rfl, hk⟩
  have HK := hide hk
  clear hk
  go_wp2_with fail
  go_ret
  refine ⟨congrArg (fun b => Ending.returned (.bool b)) ?_, ((Keeps.refl _ w).alloc _).trans' HK.out⟩
  rw [HT.out, Bool.eq_iff_iff]
  simp

def untouched (os : List OpT) : Bool := os.any fun o => !touchF o

set_option maxRecDepth 100000 in
theorem index_touch (w : World) (A : Option Addr) (c : Nat) (os : List OpT) (h : OpSrc w A os) (hl : os.length ≤ 9223372036854775807) (ho : ∀ o ∈ os, OpOk o) (hG : GL w) :
    Calls Tryd.prog 83 #[.slice A os.length c, .func (.func 58) #[] #[]] w fun e w' => ∃ r : Int, e = .returned (.int .i64 r) ∧ decide (0 ≤ r) = untouched os ∧ Keeps (fun _ => False) w w' := by
  have HO := hide ho
  have HG := hide hG
  clear ho hG
  go_enter Tryd.func83, Tryd.ntmps83
  go_wp2_with fail
  go_loopw [8] (fun i wr => ∃ k : Nat, k ≤ os.length ∧ i = .int .i64 k ∧ (∀ o ∈ os.take k, touchF o = true) ∧ Keeps (fun _ => False) w wr) (fun i _ => os.length - (RowKit.intOf i).toNat)
  case atStart => exact ⟨0, by omega, rfl, by simp, Keeps.refl _ _⟩
  case round =>
    obtain ⟨k, hk, rfl, hall, hK⟩ := hrel
    have HA := hide hall
    clear hall
    by_cases hlt : k < os.length
    · obtain ⟨ad, o, rfl, hx, c0, c1, c2, c3, c4, c5⟩ := ops_at (h.keep hK (fun _ _ h => h)) hlt
      have HX := hide hx
      have hok := HO.out o (List.mem_of_getElem? hx)
      clear hx
      go_wp2_with fail
      refine (not_touch _ o hok (HG.out.keep hK (fun h => h))).mono ?_
      cases hr : touchF o
      · have HR := hide hr
        clear hr
        rintro e w1 ⟨rfl, hk1⟩
        go_wp2_with fail
        go_ret
        refine ⟨k, rfl, ?_, hK.trans' hk1⟩
        have e1 : untouched os = true := by
          unfold untouched
          rw [List.any_eq_true]
          exact ⟨o, List.mem_of_getElem? HX.out, by rw [HR.out]; rfl⟩
        rw [e1]
        simp
      · have HR := hide hr
        clear hr
        rintro e w1 ⟨rfl, hk1⟩
        go_wp2_with fail
        go_roundw
        case rel =>
          refine ⟨k + 1, by omega, by go_num, ?_, hK.trans' hk1⟩
          obtain ⟨hk', rfl⟩ := List.getElem?_eq_some_iff.1 HX.out
          rw [List.take_succ_eq_append_getElem hk']
          intro b hb
          rcases List.mem_append.1 hb with hb | hb
          · exact HA.out b hb
          · simp at hb; subst hb; exact HR.out
        case measure => simp [RowKit.intOf]; omega
    · obtain rfl : k = os.length := by omega
      go_wp2_with fail
      go_ret
      refine ⟨-1, rfl, ?_, hK⟩
      have e1 : untouched os = false := by
        unfold untouched
        rw [List.any_eq_false]
        intro b hb
        have := HA.out b (by rw [List.take_length]; exact hb)
        simp [this]
      rw [e1]
      rfl

theorem has_untouched (w : World) (A : Option Addr) (c : Nat) (os : List OpT) (h : OpSrc w A os) (hl : os.length ≤ 9223372036854775807) (ho : ∀ o ∈ os, OpOk o) (hG : GL w) :
    Calls Tryd.prog 47 #[.slice A os.length c, .func (.func 58) #[] #[]] w fun e w' => e = .returned (.bool (untouched os)) ∧ Keeps (fun _ => False) w w' := by
  have hi := index_touch w A c os h hl ho hG
  clear h ho hG
  go_enter Tryd.func47, Tryd.ntmps47
  go_wp2_with fail
  refine hi.mono ?_
  rintro e w1 ⟨r, rfl, hr, hk⟩
  have HR := hide hr
  clear hr
  go_wp2_with fail
  go_ret
  exact ⟨by rw [← HR.out]; rfl, hk⟩

/-- Touches, its answer named -/
theorem touches_cmd (w : World) (c : CmdT) (A : Option Addr) (cap : Nat) (h : OpSrc w A c.ops) (hok : CmdOk c) (hG : GL w) {b : Bool} (hb : (!untouched c.ops) = b) :
    Calls Tryd.prog 23 #[cmdV c A cap] w fun e w' => e = .returned (.bool b) ∧ Keeps (fun _ => False) w w' := by
  obtain ⟨kind, session, req, noted, ops, path, kids, once⟩ := c
  obtain ⟨hp, hl, ho⟩ := hok
  simp only at h hl ho hb ⊢
  have HW : Hid (∀ w', Keeps (fun _ => False) w w' → Calls Tryd.prog 47 #[.slice A ops.length cap, .func (.func 58) #[] #[]] w' fun e w2 => e = .returned (.bool (untouched ops)) ∧ Keeps (fun _ => False) w' w2) :=
    fun w' (hk : Keeps (fun _ => False) w w') => has_untouched w' A cap ops (h.keep hk (fun _ _ h => h)) hl ho (hG.keep hk (fun h => h))
  generalize untouched ops = u at *
  subst hb
  clear h ho hG
  go_enter Tryd.func23, Tryd.ntmps23
  go_wp2_with fail
  refine (HW.out _ ((Keeps.refl _ w).alloc _)).mono ?_
  rintro e w1 ⟨rfl, hk⟩
  have HK := hide hk
  clear hk
  go_wp2_with fail
  go_ret
  exact ⟨rfl, ((Keeps.refl _ w).alloc _).trans' HK.out⟩

end Go.Proofs.YtcnehacblodiaaaDoor
