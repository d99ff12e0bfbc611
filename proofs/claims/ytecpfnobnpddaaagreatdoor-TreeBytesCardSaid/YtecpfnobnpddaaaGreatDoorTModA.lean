/- The model of the statements of layer 9: what it is; New, Find, Check. No condition. -/
import Derived.Test.YtecpfnobnpddaaaGreatDoorTRd
import Derived.Test.YtecpfnobnpddaaaGreatDoorFullM
set_option linter.unusedVariables false
set_option linter.unusedSimpArgs false
namespace Go.Proofs.YtecpfnobnpddaaaGreatDoor
open Go.RowKit

def entC (p : List UInt8 × NodeT) : List Value := [.string (S p.1), .string (S p.2.data), .int .i64 p.2.version, .int .i64 p.2.below, .int .i64 p.2.owner, .int .i64 p.2.made, .int .i64 p.2.set, .int .i64 p.2.serial]
abbrev entV (p : List UInt8 × NodeT) : Value := .agg #[.string (S p.1), .string (S p.2.data), .int .i64 p.2.version, .int .i64 p.2.below, .int .i64 p.2.owner, .int .i64 p.2.made, .int .i64 p.2.set, .int .i64 p.2.serial]
abbrev entA (p : List UInt8 × NodeT) : Array Value := #[.string (S p.1), .string (S p.2.data), .int .i64 p.2.version, .int .i64 p.2.below, .int .i64 p.2.owner, .int .i64 p.2.made, .int .i64 p.2.set, .int .i64 p.2.serial]
theorem entC_len (p : List UInt8 × NodeT) : (entC p).length = 8 := rfl
theorem slE : Sl Tryz.prog 67 71 8 80 (.agg #[.string ⟨#[]⟩, .string ⟨#[]⟩, .int .i64 0, .int .i64 0, .int .i64 0, .int .i64 0, .int .i64 0, .int .i64 0]) := .mk' Tryz.underlying67 (by kernel_rfl) rfl (by decide)

def modA (b : Nat) (M : TreeT) : Asn := exA fun v : Value => star (cellsA b 69 #[v]) (rowA 71 8 v M.length (M.flatMap entC))
section
variable {g w : World} {L : List Asn} {b : Nat} {M : TreeT} {v : Value}
theorem Sat.modOpen (S0 : Sat g w (modA b M :: L)) : ∃ A c, Sat g w (cellsA b 69 #[.slice A M.length c] :: rowA 71 8 (.slice A M.length c) M.length (M.flatMap entC) :: L) := by
  obtain ⟨v, S1⟩ := S0.ex
  have S2 := S1.split
  obtain ⟨A, c, rfl, -⟩ := S2.p1.row.form
  exact ⟨A, c, S2⟩
theorem Sat.modShut (S0 : Sat g w (cellsA b 69 #[v] :: rowA 71 8 v M.length (M.flatMap entC) :: L)) : Sat g w (modA b M :: L) := Sat.ex_ v S0.join
theorem ent_at {A : Option Addr} {n : Nat} (h : Src w 8 A n (M.flatMap entC)) {k : Nat} (hn : M.length = n) (hk : k < n) :
    ∃ ad x, A = some ad ∧ M[k]? = some x ∧ w.cell? (ad.add (k * 8)) = some (.string (S x.1)) ∧ w.cell? ⟨(ad.add (k * 8)).block, (ad.add (k * 8)).off + 1, none⟩ = some (.string (S x.2.data)) ∧
      w.cell? ⟨(ad.add (k * 8)).block, (ad.add (k * 8)).off + 2, none⟩ = some (.int .i64 x.2.version) ∧ w.cell? ⟨(ad.add (k * 8)).block, (ad.add (k * 8)).off + 3, none⟩ = some (.int .i64 x.2.below) ∧
      w.cell? ⟨(ad.add (k * 8)).block, (ad.add (k * 8)).off + 4, none⟩ = some (.int .i64 x.2.owner) ∧ w.cell? ⟨(ad.add (k * 8)).block, (ad.add (k * 8)).off + 5, none⟩ = some (.int .i64 x.2.made) ∧
      w.cell? ⟨(ad.add (k * 8)).block, (ad.add (k * 8)).off + 6, none⟩ = some (.int .i64 x.2.set) ∧ w.cell? ⟨(ad.add (k * 8)).block, (ad.add (k * 8)).off + 7, none⟩ = some (.int .i64 x.2.serial) := by
  obtain ⟨ad, e, hc⟩ := h.2 (by omega)
  have ha := List.getElem?_eq_getElem (l := M) (i := k) (by omega)
  have hf := flatK_at (f := entC) (n := 8) (fun _ => rfl) M k _ ha
  refine ⟨ad, M[k], e, ha, hc _ _ (hf 0 _ rfl), ?_, ?_, ?_, ?_, ?_, ?_, ?_⟩
  · rw [← add_succ, add_add]; exact hc _ _ (hf 1 _ rfl)
  · rw [← add_succ, add_add]; exact hc _ _ (hf 2 _ rfl)
  · rw [← add_succ, add_add]; exact hc _ _ (hf 3 _ rfl)
  · rw [← add_succ, add_add]; exact hc _ _ (hf 4 _ rfl)
  · rw [← add_succ, add_add]; exact hc _ _ (hf 5 _ rfl)
  · rw [← add_succ, add_add]; exact hc _ _ (hf 6 _ rfl)
  · rw [← add_succ, add_add]; exact hc _ _ (hf 7 _ rfl)

set_option maxHeartbeats 1000000 in
theorem new_mod (S0 : Sat g w L) : Calls Tryz.prog 21 #[] w fun e w' => ∃ b, e = .returned (ptr b) ∧ Sat g w' (modA b rootT :: L) := by
  have S1 := S0.box (entA ([47], zN)) 71 rfl
  have S2 := S1.box #[.slice (some ⟨w.heap.size, 0, none⟩) 1 1] 69 rfl
  have S3 := Sat.rowOf (S2.p1) 8 1 rfl (by decide)
  have HS := hide (Sat.modShut (M := rootT) (by simpa [rootT, entC] using S3.p1))
  clear S0 S1 S2 S3
  go_enter Tryz.func21, Tryz.ntmps21
  go_wp2_with fail
  go_ret
  exact ⟨_, rfl, HS.out⟩

/-- where a node is -/
def findN (M : TreeT) (s : List UInt8) : Nat := M.findIdx fun p => decide (p.1 = s)
def findF (M : TreeT) (s : List UInt8) : Int := if s ∈ keys M then (findN M s : Int) else -1
theorem find_hit {M : TreeT} {s : List UInt8} {k : Nat} {p : List UInt8 × NodeT} (h : M[k]? = some p) (hp : p.1 = s) (hb : ∀ q ∈ M.take k, q.1 ≠ s) : findF M s = k ∧ findN M s = k := by
  obtain ⟨hk, e⟩ := List.getElem?_eq_some_iff.1 h
  have hn : findN M s = k := by
    unfold findN
    rw [List.findIdx_eq hk]
    refine ⟨by simp [e, hp], fun j hj => ?_⟩
    have := hb (M[j]'(by omega)) (List.mem_take_iff_getElem.2 ⟨j, by omega, rfl⟩)
    simpa using this
  refine ⟨?_, hn⟩
  unfold findF
  rw [if_pos (List.mem_map.2 ⟨p, List.mem_of_getElem? h, hp⟩), hn]
theorem find_miss {M : TreeT} {s : List UInt8} (hb : ∀ q ∈ M, q.1 ≠ s) : findF M s = -1 := by
  unfold findF
  rw [if_neg]
  intro h
  obtain ⟨q, hq, e⟩ := List.mem_map.1 h
  exact hb q hq e

set_option maxRecDepth 100000 in
set_option maxHeartbeats 4000000 in
theorem find_open {A : Option Addr} {c : Nat} (S1 : Sat g w (cellsA b 69 #[.slice A M.length c] :: rowA 71 8 (.slice A M.length c) M.length (M.flatMap entC) :: L)) (hl : M.length ≤ 1000000) (s : List UInt8) :
    Calls Tryz.prog 94 #[ptr b, .string (S s)] w fun e w' => e = .returned (.int .i64 (findF M s)) ∧ Sat g w' (cellsA b 69 #[.slice A M.length c] :: rowA 71 8 (.slice A M.length c) M.length (M.flatMap entC) :: L) := by
  have c0 := S1.cell 0 _ rfl
  have HH : Hid (∀ k p, M[k]? = some p → p.1 = s → (∀ q ∈ M.take k, q.1 ≠ s) → findF M s = k) := hide fun k p h1 h2 h3 => (find_hit h1 h2 h3).1
  have HM : Hid ((∀ q ∈ M, q.1 ≠ s) → findF M s = -1) := hide find_miss
  generalize findF M s = F at *
  go_enter Tryz.func94, Tryz.ntmps94
  go_wp2_with fail
  clear c0
  go_loopw [12] (fun i wr => ∃ k : Nat, k ≤ M.length ∧ i = .int .i64 k ∧ (∀ q ∈ M.take k, q.1 ≠ s) ∧ Sat g wr (cellsA b 69 #[.slice A M.length c] :: rowA 71 8 (.slice A M.length c) M.length (M.flatMap entC) :: L)) (fun i _ => M.length + 1 - (RowKit.intOf i).toNat)
  case atStart => exact ⟨0, by omega, rfl, by simp, S1⟩
  case round =>
    obtain ⟨k, hk, rfl, hb, S2⟩ := hrel
    have HB := hide hb
    clear S1 hb
    by_cases hlt : k < M.length
    · have hk0 : (0 : Int) ≤ (k : Int) := by omega
      have hk1 : (k : Int) < (M.length : Int) := by omega
      obtain ⟨ad, p, rfl, hp, d0, d1, d2, d3, d4, d5, d6, d7⟩ := ent_at S2.p1.srcT rfl hlt
      have HP := hide hp
      clear hp
      go_upto_region 4 with fail
      have S3 := S2.box (entA p) 71 rfl
      generalize wr.alloc (.cells (entA p) 71) = w3 at *
      generalize wr.heap.size = xb at *
      have x0 := S3.cell 0 _ rfl
      clear S2 d0 d1 d2 d3 d4 d5 d6 d7
      by_cases he : p.1 = s
      · have e : F = k := HH.out k p HP.out he HB.out
        subst e
        have heb : (p.1 == s) = true := by simpa using he
        clear he HH HM
        go_wp2_with fail
        go_ret
        exact ⟨rfl, S3.drop⟩
      · have heb : (p.1 == s) = false := by simpa using he
        have hb2 : ∀ q ∈ M.take (k + 1), q.1 ≠ s := by
          obtain ⟨hk', e⟩ := List.getElem?_eq_some_iff.1 HP.out
          rw [List.take_succ_eq_append_getElem hk', e]
          intro q hq
          rcases List.mem_append.1 hq with hq | hq
          · exact HB.out q hq
          · obtain rfl : q = p := by simpa using hq
            exact he
        have HB2 := hide hb2
        clear he hb2
        go_wp2_with fail
        go_roundw
        case rel => exact ⟨k + 1, by omega, by go_num, HB2.out, S3.drop⟩
        case measure => simp [RowKit.intOf]; omega
    · obtain rfl : k = M.length := by omega
      have e : F = -1 := HM.out (by have := HB.out; rwa [List.take_length] at this)
      subst e
      go_wp2_with fail
      go_ret
      exact ⟨rfl, S2⟩
theorem find_mod (S0 : Sat g w (modA b M :: L)) (hl : M.length ≤ 1000000) (s : List UInt8) :
    Calls Tryz.prog 94 #[ptr b, .string (S s)] w fun e w' => e = .returned (.int .i64 (findF M s)) ∧ Sat g w' (modA b M :: L) := by
  obtain ⟨A, c, S1⟩ := S0.modOpen
  refine (find_open S1 hl s).mono ?_
  rintro e w' ⟨rfl, S2⟩
  exact ⟨rfl, S2.modShut⟩
end
end Go.Proofs.YtecpfnobnpddaaaGreatDoor
