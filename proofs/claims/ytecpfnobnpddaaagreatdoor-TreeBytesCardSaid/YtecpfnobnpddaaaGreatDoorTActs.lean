/- The statements of layer 9 over lists of acts: how acts are read; few of them; an act's path. No condition. -/
import Derived.Test.YtecpfnobnpddaaaGreatDoorTModP
import Derived.Test.YtecpfnobnpddaaaGreatDoorTReadsW
import Derived.Test.YtecpfnobnpddaaaGreatDoorPathM
set_option linter.unusedVariables false
set_option linter.unusedSimpArgs false
namespace Go.Proofs.YtecpfnobnpddaaaGreatDoor
open Go.RowKit

/-- an act: kind, version, owner, the path's numbers (where they lie, the slice's capacity), another path, data, serial -/
structure ActT where
  k : Int
  version : Int
  owner : Int
  pa : Option Addr
  pc : Nat
  path : List Int
  raw : List UInt8
  data : List UInt8
  serial : Bool
def actTC (a : ActT) : List Value := [.int .i64 a.k, .int .i64 a.version, .int .i64 a.owner, .slice a.pa a.path.length a.pc, .string (S a.raw), .string (S a.data), .bool a.serial]
abbrev actTA (a : ActT) : Array Value := #[.int .i64 a.k, .int .i64 a.version, .int .i64 a.owner, .slice a.pa a.path.length a.pc, .string (S a.raw), .string (S a.data), .bool a.serial]
abbrev actTV (a : ActT) : Value := .agg (actTA a)
theorem tact_at {w : World} {A : Option Addr} {xs : List ActT} (h : Src w 7 A xs.length (xs.flatMap actTC)) {k : Nat} (hk : k < xs.length) :
    ∃ ad x, A = some ad ∧ xs[k]? = some x ∧ w.cell? (ad.add (k * 7)) = some (.int .i64 x.k) ∧ w.cell? ⟨(ad.add (k * 7)).block, (ad.add (k * 7)).off + 1, none⟩ = some (.int .i64 x.version) ∧ w.cell? ⟨(ad.add (k * 7)).block, (ad.add (k * 7)).off + 2, none⟩ = some (.int .i64 x.owner) ∧
      w.cell? ⟨(ad.add (k * 7)).block, (ad.add (k * 7)).off + 3, none⟩ = some (.slice x.pa x.path.length x.pc) ∧ w.cell? ⟨(ad.add (k * 7)).block, (ad.add (k * 7)).off + 4, none⟩ = some (.string (S x.raw)) ∧
      w.cell? ⟨(ad.add (k * 7)).block, (ad.add (k * 7)).off + 5, none⟩ = some (.string (S x.data)) ∧ w.cell? ⟨(ad.add (k * 7)).block, (ad.add (k * 7)).off + 6, none⟩ = some (.bool x.serial) := by
  obtain ⟨ad, e, hc⟩ := h.2 (by omega)
  have ha := List.getElem?_eq_getElem hk
  have hf := flatK_at (f := actTC) (n := 7) (fun _ => rfl) xs k _ ha
  refine ⟨ad, xs[k], e, ha, hc _ _ (hf 0 _ rfl), ?_, ?_, ?_, ?_, ?_, ?_⟩
  · rw [← add_succ, add_add]; exact hc _ _ (hf 1 _ rfl)
  · rw [← add_succ, add_add]; exact hc _ _ (hf 2 _ rfl)
  · rw [← add_succ, add_add]; exact hc _ _ (hf 3 _ rfl)
  · rw [← add_succ, add_add]; exact hc _ _ (hf 4 _ rfl)
  · rw [← add_succ, add_add]; exact hc _ _ (hf 5 _ rfl)
  · rw [← add_succ, add_add]; exact hc _ _ (hf 6 _ rfl)
/-- the acts, and each one's path -/
def ActsT (w : World) (A : Option Addr) (xs : List ActT) : Prop := Src w 7 A xs.length (xs.flatMap actTC) ∧ ∀ x ∈ xs, Src w 1 x.pa x.path.length (Is x.path)
theorem ActsT.keepB {w w' : World} {A : Option Addr} {xs : List ActT} {F : Nat → Prop} (h : ActsT w A xs) (hk : Keeps F w w') (hF : ∀ k, k < w.heap.size → ¬ F k) : ActsT w' A xs :=
  ⟨h.1.keepB (by decide) hk hF, fun x hx => (h.2 x hx).keepB (by decide) hk hF⟩
theorem ActsT.of {W w : World} {L : List Asn} {A : Option Addr} {xs : List ActT} (h : ActsT W A xs) (S0 : Sat W w L) (hm : oldA W ∈ L) : ActsT w A xs := h.keepB (S0.keepsOf hm) (fun k hk h => by omega)

def smallT (a : ActT) : Bool := decide (a.path.length ≤ 12) && decide (a.data.length ≤ 200) && decide (a.raw.length ≤ 100)
def fewT (xs : List ActT) : Bool := xs.all smallT && decide (xs.length ≤ 40)
theorem fewT_out {xs : List ActT} (h : fewT xs = true) : (∀ a ∈ xs, a.path.length ≤ 12 ∧ a.data.length ≤ 200 ∧ a.raw.length ≤ 100) ∧ xs.length ≤ 40 := by
  simp only [fewT, smallT, Bool.and_eq_true, List.all_eq_true, decide_eq_true_eq] at h
  exact ⟨fun a ha => ⟨(h.1 a ha).1.1, (h.1 a ha).1.2, (h.1 a ha).2⟩, h.2⟩

set_option maxRecDepth 100000 in
set_option maxHeartbeats 1000000 in
theorem few_tacts (w : World) (A : Option Addr) (c : Nat) (xs : List ActT) (h : ActsT w A xs) (hl : xs.length ≤ 9223372036854775807) (hg : ∀ x ∈ xs, x.raw.length ≤ 9223372036854775807 ∧ x.data.length ≤ 9223372036854775807) :
    Calls Tryz.prog 19 #[.slice A xs.length c] w fun e w' => e = .returned (.bool (fewT xs)) ∧ Keeps (fun _ => False) w w' := by
  have h := h.1
  have HF : Hid (fewT xs = (xs.all smallT && decide (xs.length ≤ 40))) := rfl
  have HG := hide hg
  generalize fewT xs = R at *
  have HS := hide h
  clear h hg
  go_enter Tryz.func19, Tryz.ntmps19
  go_wp2_with fail
  go_loopw [7] (fun i wr => ∃ k : Nat, k ≤ xs.length ∧ i = .int .i64 k ∧ (∀ x ∈ xs.take k, smallT x = true) ∧ Keeps (fun _ => False) w wr) (fun i _ => xs.length - (RowKit.intOf i).toNat)
  case atStart => exact ⟨0, by omega, rfl, by simp, Keeps.refl _ _⟩
  case round =>
    obtain ⟨k, hk, rfl, hall, hK⟩ := hrel
    have HA := hide hall
    have HK := hide hK
    clear hall hK
    by_cases hlt : k < xs.length
    · have hlt2 : (k : Int) < (xs.length : Int) := by omega
      have hk0 : (0 : Int) ≤ (k : Int) := by omega
      obtain ⟨ad, x, rfl, hx, d0, d1, d2, d3, d4, d5, d6⟩ := tact_at (HS.out.keep HK.out (fun _ _ h => h)) hlt
      have HX := hide hx
      obtain ⟨hg1, hg2⟩ := HG.out x (List.mem_of_getElem? hx)
      clear hx
      have HT : Hid (R = false ∨ smallT x = true) := hide (by
        cases hs : smallT x with
        | true => exact .inr rfl
        | false =>
          left
          rw [HF.out, Bool.and_eq_false_iff]
          left
          rw [List.all_eq_false]
          exact ⟨_, List.mem_of_getElem? HX.out, by simp [hs]⟩)
      obtain ⟨x0, x1, x2, xa, xc, xp, xr, xd, xs'⟩ := x
      simp only at d0 d1 d2 d3 d4 d5 d6 hg1 hg2
      have HSM : Hid (smallT ⟨x0, x1, x2, xa, xc, xp, xr, xd, xs'⟩ = (decide (xp.length ≤ 12) && decide (xd.length ≤ 200) && decide (xr.length ≤ 100))) := rfl
      have HKC : Hid (Keeps (fun _ => False) w (wr.alloc (.cells (actTA ⟨x0, x1, x2, xa, xc, xp, xr, xd, xs'⟩) 54))) := hide (HK.out.alloc _)
      have HSUC : Hid (smallT ⟨x0, x1, x2, xa, xc, xp, xr, xd, xs'⟩ = true → ∀ y ∈ xs.take (k + 1), smallT y = true) := hide fun hs y hy => by
        obtain ⟨hk', e1⟩ := List.getElem?_eq_some_iff.1 HX.out
        rw [List.take_succ_eq_append_getElem hk', e1] at hy
        rcases List.mem_append.1 hy with hy | hy
        · exact HA.out y hy
        · obtain rfl : y = _ := by simpa using hy
          exact hs
      go_upto_region 4 with fail
      have S1 := (Sat.start wr).box (actTA ⟨x0, x1, x2, xa, xc, xp, xr, xd, xs'⟩) 54 rfl
      generalize wr.alloc (.cells (actTA ⟨x0, x1, x2, xa, xc, xp, xr, xd, xs'⟩) 54) = wC at *
      generalize wr.heap.size = xb at *
      have c3 := S1.cell 3 _ rfl
      have c4 := S1.cell 4 _ rfl
      have c5 := S1.cell 5 _ rfl
      clear S1 d0 d1 d2 d3 d4 d5 d6
      have hbad : smallT ⟨x0, x1, x2, xa, xc, xp, xr, xd, xs'⟩ = false → R = false := fun h => by
        rcases HT.out with e | e
        · exact e
        · rw [h] at e; cases e
      have HBAD := hide hbad
      clear hbad HT
      by_cases h1 : xp.length ≤ 12
      · have b1 : ¬ (12 : Int) < (xp.length : Int) := by omega
        by_cases h2 : xd.length ≤ 200
        · have b2 : ¬ (200 : Int) < (xd.length : Int) := by omega
          by_cases h3 : xr.length ≤ 100
          · have b3 : ¬ (100 : Int) < (xr.length : Int) := by omega
            have HOK := hide (HSUC.out (by rw [HSM.out]; simp [h1, h2, h3]))
            clear h1 h2 h3
            go_wp2_with fail
            go_roundw
            case rel => exact ⟨k + 1, by omega, by go_num, HOK.out, HKC.out⟩
            case measure => simp [RowKit.intOf]; omega
          · have b3 : (100 : Int) < (xr.length : Int) := by omega
            have e : R = false := HBAD.out (by rw [HSM.out]; simp [h3])
            subst e
            clear h1 h2 h3
            go_wp2_with fail
            go_ret
            exact ⟨rfl, HKC.out⟩
        · have b2 : (200 : Int) < (xd.length : Int) := by omega
          have e : R = false := HBAD.out (by rw [HSM.out]; simp [h2])
          subst e
          clear h1 h2
          go_wp2_with fail
          go_ret
          exact ⟨rfl, HKC.out⟩
      · have b1 : (12 : Int) < (xp.length : Int) := by omega
        have e : R = false := HBAD.out (by rw [HSM.out]; simp [h1])
        subst e
        clear h1
        go_wp2_with fail
        go_ret
        exact ⟨rfl, HKC.out⟩
    · obtain rfl : k = xs.length := by omega
      go_wp2_with fail
      go_ret
      refine ⟨?_, HK.out⟩
      have hall : xs.all smallT = true := by
        rw [List.all_eq_true]
        intro x hx
        exact HA.out x (by rw [List.take_length]; exact hx)
      have e : R = decide (xs.length ≤ 40) := by
        rw [HF.out, hall]
        rfl
      rw [e]
      show Ending.returned (.bool (decide ((xs.length : Int) ≤ 40))) = _
      congr 2
      rw [decide_eq_decide]
      omega
end Go.Proofs.YtecpfnobnpddaaaGreatDoor
