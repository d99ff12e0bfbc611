/- The law SessApart, walked. No condition. -/
import Derived.Test.YtinpnnfeggjbeaaActs
set_option linter.unusedVariables false
namespace Go.Proofs.Ytinpnnfeggjbeaa
open Go.RowKit

theorem open_apart (m : Tab) (id I : Int) (h : id ≠ I) : mget (openF m id).2 I = mget m I := by
  unfold openF
  split
  · rfl
  · split
    · rfl
    · split
      · rfl
      · rw [mget_mput, if_neg (fun e => h e.symm)]
theorem close_apart (m : Tab) (id I : Int) (h : id ≠ I) : mget (closeF m id).2 I = mget m I := by
  unfold closeF
  split
  · rw [mget_mdel, if_neg (fun e => h e.symm)]
  · rfl
theorem keep_apart (m : Tab) (id I req : Int) (a : List UInt8) (h : id ≠ I) : mget (keepF m id req a).2 I = mget m I := by
  unfold keepF
  split
  · rfl
  · split
    · rfl
    · split
      · rfl
      · rw [mget_mput, if_neg (fun e => h e.symm)]

def mine : List UInt8 := [109, 105, 110, 101]

set_option maxRecDepth 100000 in
set_option maxHeartbeats 1000000 in
theorem apart_walk (W : World) (A : Option Addr) (xs : List Act) (c : Nat) (id : Int)
    (h0 : Src W 4 A xs.length (xs.flatMap actC)) (hl : xs.length ≤ 9223372036854775807) (hg : ∀ a ∈ xs, a.2.2.2.length ≤ 9223372036854775807) :
    Calls Try.prog 4 #[.slice A xs.length c, .int .i64 id] W fun e w' => e = .returned (.bool true) ∧ Keeps (fun k => W.heap.size ≤ k) W w' := by
  have hid : 0 ≤ bits .and .i64 id 15 ∧ bits .and .i64 id 15 ≤ 15 := and_le id 15 (by decide)
  obtain ⟨hid1, hid2⟩ := hid
  have HG := hide hg
  clear hg
  go_enter Try.func4, Try.ntmps4
  go_wp2_with fail
  refine (head_sess W).mono ?_
  rintro e w0 ⟨rfl, hk0⟩
  have HK := hide (hk0.mono (G := fun k => W.heap.size ≤ k) (fun _ _ h => h.elim))
  have hs0 := hk0.size
  clear hk0
  go_wp2_with fail
  refine (few_acts W w0 A xs c h0 HK.out hl HG.out).mono ?_
  cases hf : fewF xs
  · clear hf
    rintro e w1 ⟨rfl, hk1⟩
    replace HK := hide (HK.out.trans hk1 (fun i hi e => e.elim))
    clear hk1
    go_wp2_with fail
    go_ret
    exact ⟨rfl, HK.out⟩
  · clear hf
    rintro e w1 ⟨rfl, hk1⟩
    replace HK := hide (HK.out.trans hk1 (fun i hi e => e.elim))
    have hs1 := hk1.size
    clear hk1
    go_wp2_with fail
    refine (new_sess w1).mono ?_
    rintro e w2 ⟨t, mb, rfl, hT, ht, hmb, hk⟩
    have HT := hide hT
    replace HK := hide (HK.out.trans hk (fun i hi e => e.elim))
    clear hT hk
    go_wp2_with fail
    generalize hI : (1 + bits BinOp.and IntKind.i64 id 15) = I
    have HI := hide hI
    have hI1 : 1 ≤ I := by omega
    have hI2 : I ≤ 16 := by omega
    clear hI
    refine (open_sess _ _ _ _ _ HT.out).mono ?_
    have ho : openF [] I = (0, [(I, (0, []))]) := by
      unfold openF
      rw [if_neg (by omega)]
      simp [mput, mget]
    rw [ho]
    rintro e w3 ⟨rfl, hT, hk2⟩
    replace HK := hide (HK.out.trans hk2 (fun i hi e => by omega))
    replace HT := hide hT
    clear hT hk2 ho
    go_wp2_with fail
    refine (keep_sess _ _ _ _ _ _ mine (by simp [mine]) HT.out).mono ?_
    have ho : keepF [(I, (0, []))] I 7 mine = (0, [(I, (7, mine))]) := by
      rw [keep_of (last := 0) (text := []) (by simp [mget]) 7 mine (by decide) (by simp [mine])]
      simp [mput, mget]
    rw [ho]
    rintro e w4 ⟨rfl, hT, hk2⟩
    replace HK := hide (HK.out.trans hk2 (fun i hi e => by omega))
    replace HT := hide hT
    clear hT hk2 ho
    go_wp2_with fail
    go_loopw [32] (fun i wr => ∃ k : Nat, k ≤ xs.length ∧ i = .int .i64 k ∧ ∃ m : Tab, Tb wr t mb m ∧ mget m I = some (7, mine) ∧ Keeps (fun k => W.heap.size ≤ k) W wr) (fun i _ => xs.length - (intOf i).toNat)
    case atStart => exact ⟨0, by omega, rfl, _, HT.out, by simp [mget], HK.out⟩
    case round =>
      obtain ⟨k, hk, rfl, m, hT, hm, hK⟩ := hrel
      clear HT HK
      have HT := hide hT
      have HK := hide hK
      have HM := hide hm
      clear hT hK hm
      by_cases hlt : k < xs.length
      · obtain ⟨ad, a, rfl, ha, c0, c1, c2, c3⟩ := acts_at (h0.keepB (by decide) HK.out (fun k hk h => by omega)) hlt
        have hga := HG.out a (List.mem_of_getElem? ha)
        clear ha
        obtain ⟨ak, aid, areq, ans⟩ := a
        simp only at c0 c1 c2 c3 hga
        by_cases hid : aid = I
        · subst hid
          go_wp2_with fail
          go_roundw
          case rel => exact ⟨k + 1, by omega, by go_num, m, HT.out.kept ((Keeps.refl (fun _ => False) _).alloc _) (fun h => h) (fun h => h), HM.out, HK.out.alloc _⟩
          case measure => simp [intOf]; omega
        · have hne : (aid == I) = false := by simpa using hid
          have HID := hide hid
          clear hid
          go_upto_block 2 with fail
          generalize wrap64 ((IntKind.u64.wrap ak).tmod 5) = kd
          have HT1 := hide (HT.out.kept ((Keeps.refl (fun _ => False) _).alloc (.cells #[.int .i64 ak, .int .i64 aid, .int .i64 areq, .string (S ans)] 36)) (fun h => h) (fun h => h))
          have HK1 := hide (HK.out.alloc (.cells #[.int .i64 ak, .int .i64 aid, .int .i64 areq, .string (S ans)] 36))
          go_cut [] (fun wx => ∃ m : Tab, Tb wx t mb m ∧ mget m I = some (7, mine) ∧ Keeps (fun k => W.heap.size ≤ k) W wx)
          case first =>
            by_cases hk0 : kd = 0
            · subst hk0
              go_wp2_with fail
              refine (open_sess _ _ _ _ _ HT1.out).mono ?_
              rintro e w3 ⟨rfl, hT3, hk3⟩
              have HT3 := hide hT3
              have HK3 := hide (HK1.out.trans hk3 (fun i hi e => by omega))
              clear hT3 hk3
              go_wp2_with fail
              go_meet
              case rel => exact ⟨_, HT3.out, by rw [open_apart _ _ _ HID.out]; exact HM.out, HK3.out⟩
            · by_cases hk1 : kd = 1
              · subst hk1
                go_wp2_with fail
                refine (close_sess _ _ _ _ _ HT1.out).mono ?_
                rintro e w3 ⟨rfl, hT3, hk3⟩
                have HT3 := hide hT3
                have HK3 := hide (HK1.out.trans hk3 (fun i hi e => by omega))
                clear hT3 hk3
                go_wp2_with fail
                go_meet
                case rel => exact ⟨_, HT3.out, by rw [close_apart _ _ _ HID.out]; exact HM.out, HK3.out⟩
              · have b0 : (kd == 0) = false := by simpa using hk0
                have b1 : (kd == 1) = false := by simpa using hk1
                clear hk0 hk1
                by_cases hk2 : kd = 2 ∨ kd = 3
                · rcases hk2 with rfl | rfl
                  all_goals
                    go_wp2_with fail
                    refine (keep_sess _ _ _ _ _ _ ans hga HT1.out).mono ?_
                    rintro e w3 ⟨rfl, hT3, hk3⟩
                    have HT3 := hide hT3
                    have HK3 := hide (HK1.out.trans hk3 (fun i hi e => by omega))
                    clear hT3 hk3
                    go_wp2_with fail
                    go_meet
                    case rel => exact ⟨_, HT3.out, by rw [keep_apart _ _ _ _ _ HID.out]; exact HM.out, HK3.out⟩
                · have b2 : (kd == 2) = false := by simp; omega
                  have b3 : (kd == 3) = false := by simp; omega
                  clear hk2
                  go_wp2_with fail
                  go_meet
                  case rel => exact ⟨_, HT1.out, HM.out, HK1.out⟩
          case rest =>
            obtain ⟨m2, hT2, hm2, hK2⟩ := hcut
            have HT2 := hide hT2
            have HK2 := hide hK2
            have HM2 := hide hm2
            clear hT2 hK2 hm2 HT HK HM HT1 HK1
            have s1 : seenF m2 I 7 = (mine, true, 0) := by
              rw [seen_of HM2.out 7 (by omega) (by omega), if_neg (by omega), if_pos rfl]
            have c1 := seen_sess _ _ _ _ I 7 HT2.out
            rw [s1] at c1
            clear s1
            go_wp2_with fail
            refine c1.mono ?_
            rintro e w4 ⟨rfl, hk4⟩
            have HT4 := hide (HT2.out.kept hk4 (fun h => h) (fun h => h))
            have HK4 := hide (HK2.out.trans hk4 (fun i hi e => e.elim))
            clear hk4 c1
            go_wp2_with fail
            go_roundw
            case rel => exact ⟨k + 1, by omega, by go_num, m2, HT4.out, HM2.out, HK4.out⟩
            case measure => simp [intOf]; omega
      · go_wp2_with fail
        refine (has_sess _ _ _ _ I HT.out).mono ?_
        have e1 : decide (I ∈ keys m) = true := by
          simp only [decide_eq_true_eq]
          exact mem_keys_mget.2 ⟨_, HM.out⟩
        rw [e1]
        rintro e w4 ⟨rfl, hk4⟩
        go_wp2_with fail
        go_ret
        exact ⟨rfl, HK.out.trans hk4 (fun i hi e => e.elim)⟩

end Go.Proofs.Ytinpnnfeggjbeaa
