/- The law TreeSerials, walked. No condition. -/
import Derived.Test.YtecpfnobnpddaaaDoorTreeF
import Derived.Test.YtecpfnobnpddaaaDoorTSer
set_option linter.unusedVariables false
set_option linter.unusedSimpArgs false
namespace Go.Proofs.YtecpfnobnpddaaaDoor
open Go.RowKit

theorem flatMap_Bo (ns : List Bool) : (ns.flatMap fun n => [Value.bool n]) = ns.map Value.bool := by
  induction ns with
  | nil => rfl
  | cons a r ih => simp [ih]
theorem ser_nodes {T : TreeT} {b k : Nat} (h : SerT T b k) (hk : k ≤ 60) (hb : b ≤ 1000) : NodesOk T := by
  obtain ⟨l, rfl, h1, _⟩ := h
  intro p hp
  rcases List.mem_cons.1 hp with rfl | hp
  · simp only; omega
  · obtain ⟨i, _, rfl⟩ := h1 p hp
    simp [qN]
theorem ser_paths {T : TreeT} {b k : Nat} (h : SerT T b k) : PathsOk T := by
  obtain ⟨l, rfl, h1, _⟩ := h
  intro p hp
  rcases List.mem_cons.1 hp with rfl | hp
  · simp
  · obtain ⟨i, _, rfl⟩ := h1 p hp
    simp [numN, numP, fixD_length]
theorem ser_len {T : TreeT} {b k : Nat} (h : SerT T b k) : T.length ≤ k + 1 := by
  obtain ⟨l, rfl, _, h2⟩ := h
  simpa using h2
theorem ser_get {T : TreeT} {b k : Nat} (h : SerT T b k) : getF T [47] = (⟨[], 0, b, 0, 0, 0, k⟩, 0) := by
  have h0 : checkF [47] = 0 := by decide
  unfold getF
  rw [if_pos h0, h.root]
theorem numN_len (k : Nat) : (numN k).length = 12 := by simp [numN, numP, fixD_length]
theorem delete_eq {g w : World} {L : List Asn} {b : Nat} {T : TreeT} (S0 : Sat g w (treeA b T :: L)) (hG : GL g) (hm : oldA g ∈ L) (hP : PathsOk T) (hN : NodesOk T) (s : List UInt8) (v : Int) {r : Int} {T' : TreeT}
    (h : deleteF T s v = (r, T')) (hs : s.length ≤ 140737488350000) (hT : T.length ≤ 1000000) :
    Calls Tryd.prog 23 #[ptr b, .string (S s), .int .i64 v] w fun e w' => e = .returned (.int .i64 r) ∧ Sat g w' (treeA b T' :: L) := by
  have := delete_tree S0 hG hm hP hT s v hs (fun n hn => (hN _ (mget_mem hn)).2.2)
  rw [h] at this
  exact this

set_option maxRecDepth 100000 in
set_option maxHeartbeats 4000000 in
theorem tser_walk (W : World) (hG : GL W) (A : Option Addr) (a : List Bool) (c : Nat) (ha : Src W 1 A a.length (a.map Value.bool)) (hl : a.length ≤ 9223372036854775807) :
    Calls Tryd.prog 5 #[.slice A a.length c] W fun e w' => e = .returned (.bool true) ∧ Keeps (fun _ => False) W w' := by
  have HGL : Hid (GL W) := hG
  have HSRC : Hid (∀ {w : World} {L : List Asn}, Sat W w L → oldA W ∈ L → Src w 1 A a.length (a.map Value.bool)) := fun S0 hm => ha.keepB (by decide) (S0.keepsOf hm) (fun k hk h => by omega)
  clear ha
  go_enter Tryd.func5, Tryd.ntmps5
  go_wp2_with fail
  refine (head_tree (Sat.start W) hG (by simp)).mono ?_
  rintro e w0 ⟨rfl, S0⟩
  clear hG
  by_cases h50 : 50 < a.length
  · have h50b : (50 : Int) < (a.length : Int) := by omega
    have HK := hide S0.keep_all
    clear S0
    go_wp2_with fail
    go_ret
    exact ⟨rfl, HK.out⟩
  · have h50b : (a.length : Int) ≤ 50 := by omega
    go_wp2_with fail
    refine (new_tree S0).mono ?_
    rintro e w1 ⟨t, rfl, S1⟩
    clear S0
    go_wp2_with fail
    go_loopw [18] (fun i wr => ∃ (k b : Nat) (T : TreeT), k ≤ a.length ∧ b ≤ 2 * k ∧ SerT T b k ∧ i = .int .i64 k ∧ Sat W wr (treeA t T :: [oldA W])) (fun i _ => a.length + 1 - (RowKit.intOf i).toNat)
    case atStart => exact ⟨0, 0, _, by omega, by omega, ser_start, rfl, S1⟩
    case round =>
      obtain ⟨k, b, T, hk, hb, hT, rfl, S2⟩ := hrel
      clear S1
      by_cases hlt : k < a.length
      · have hk0 : (0 : Int) ≤ (k : Int) := by omega
        have hk1 : (k : Int) < (a.length : Int) := by omega
        obtain ⟨ad, u, hA, hu, hc⟩ := (HSRC.out S2 (by simp)).at_ hlt
        rw [List.getElem?_map, List.getElem?_eq_getElem hlt] at hu
        simp only [Option.map_some, Option.some.injEq] at hu
        subst hu
        obtain ⟨T1, hcr, hT1, hg1⟩ := hT.create (by omega)
        have HCR := hide hcr
        have HT1 := hide hT1
        have HG1 := hide hg1
        have HT := hide hT
        clear hcr hT1 hg1 hT
        generalize a[k] = off at *
        subst hA
        go_wp2_with fail
        refine (create_eq S2 (HGL.out.at S2 (by simp)) (ser_nodes HT.out (by omega) (by omega)) [47, 110] [] 0 ((k : Int) + 1) true HCR.out (by decide) (by decide) (by have := ser_len HT.out; omega)).mono ?_
        rintro e w3 ⟨rfl, S3⟩
        clear S2 hc
        go_wp2_with fail
        refine (serial_path w3 [47, 110] (k : Int) (by omega) (by omega) (by decide)).mono ?_
        rw [serial_num k (by omega)]
        rintro e w4 ⟨rfl, hk4⟩
        have S4 := S3.keep hk4
        clear S3 hk4
        have hbeq : (numN k == numN k) = true := by simp
        cases off
        · go_wp2_with fail
          go_roundw
          case rel => exact ⟨k + 1, b + 1, T1, by omega, by omega, HT1.out, by go_num, S4⟩
          case measure => simp [RowKit.intOf]; omega
        · obtain ⟨T2, hde, hT2⟩ := HT1.out.delete HG1.out
          have HDE := hide hde
          have HT2 := hide hT2
          clear hde hT2
          go_wp2_with fail
          refine (delete_eq S4 HGL.out (by simp) (ser_paths HT1.out) (ser_nodes HT1.out (by omega) (by omega)) (numN k) 0 HDE.out (by rw [numN_len]; decide) (by have := ser_len HT1.out; omega)).mono ?_
          rintro e w5 ⟨rfl, S5⟩
          clear S4
          go_wp2_with fail
          go_roundw
          case rel => exact ⟨k + 1, b + 1 + 1, T2, by omega, by omega, HT2.out, by go_num, S5⟩
          case measure => simp [RowKit.intOf]; omega
      · obtain rfl : k = a.length := by omega
        have HT := hide hT
        clear hT
        go_wp2_with fail
        have hget := get_tree S2 (HGL.out.at S2 (by simp)) [47] (by decide)
        rw [ser_get HT.out] at hget
        refine hget.mono ?_
        rintro e w3 ⟨rfl, S3⟩
        clear hget S2
        go_upto_region 16 with fail
        have S4 := S3.box (nodC ⟨[], 0, b, 0, 0, 0, a.length⟩) 30 rfl
        generalize w3.alloc (.cells (nodC ⟨[], 0, b, 0, 0, 0, a.length⟩) 30) = w4 at *
        generalize w3.heap.size = xb at *
        clear S3
        obtain ⟨a0, a1, a2, a3, a4, a5, a6⟩ := S4.nod
        have HK := hide (S4.drop.drop.keep_all)
        clear S4
        go_wp2_with fail
        go_ret
        exact ⟨rfl, HK.out⟩
end Go.Proofs.YtecpfnobnpddaaaDoor
