/- Contracts of the package path. No condition. Numbers of k decimal digits, zeros ahead. Plain. The statements' own helpers over the package path: paths of some parts, the document's example. No condition. The statements' own helper: which texts may be parts. No condition. The law PathOrders, walked. No condition. The law PathChecks, walked. No condition. Paths of some parts: what up, join, below and check answer. Plain. Numbers of k digits in order. Plain. -/
import Derived.Test.YtanlobdidjednaaGreatDoorPithM
import Derived.Test.YtanlobdidjednaaGreatDoorShelf
import Derived.BigQuiet
import Derived.Deep.QuietTactic
import Derived.Lib.Repeat
import Derived.Lib.ItoaNum
import Derived.Lib.Atoi
import Derived.Lib.ItoaMem
namespace Go.Proofs.YtanlobdidjednaaGreatDoor
section
set_option linter.unusedVariables false
open Go.RowKit

/-! ### plain: a text cut at a byte -/
def cutL (c : UInt8) : List UInt8 → List (List UInt8)
  | [] => [[]]
  | b :: l => if b = c then [] :: cutL c l else match cutL c l with
    | p :: ps => (b :: p) :: ps
    | [] => [[b]]
theorem cutL_ne (c : UInt8) (l : List UInt8) : ∃ p ps, cutL c l = p :: ps := by
  induction l with
  | nil => exact ⟨_, _, rfl⟩
  | cons b l ih =>
    obtain ⟨p, ps, h⟩ := ih
    unfold cutL
    split
    · exact ⟨_, _, rfl⟩
    · rw [h]; exact ⟨_, _, rfl⟩
theorem index_cons (b c : UInt8) (l : List UInt8) : Lib.index (b :: l) [c] = if b = c then 0 else if Lib.index l [c] = -1 then -1 else Lib.index l [c] + 1 := by
  rw [Lib.index]
  by_cases h : b = c
  · subst h; simp [List.isPrefixOf]
  · have : ¬ c = b := fun e => h e.symm
    simp [List.isPrefixOf, h, this]
theorem index_mem (c : UInt8) (l : List UInt8) (h : 0 < l.count c) : Lib.index l [c] ≠ -1 := by
  induction l with
  | nil => simp at h
  | cons b l ih =>
    rw [index_cons]
    split
    · decide
    · rename_i hb
      have h2 : 0 < l.count c := by rwa [List.count_cons_of_ne hb] at h
      rw [if_neg (ih h2)]
      have := Lib.index_ge l [c]
      have := ih h2
      omega
theorem splitK_cut (c : UInt8) (l : List UInt8) : Lib.splitK [c] 0 (l.count c) l = cutL c l := by
  induction l with
  | nil => rfl
  | cons b l ih =>
    by_cases h : b = c
    · subst h
      rw [List.count_cons_self]
      unfold Lib.splitK cutL
      rw [index_cons, if_pos rfl, if_pos rfl]
      simp only [List.length_cons, List.length_nil]
      rw [if_neg (by decide)]
      simp only [Int.toNat_zero, List.take_zero, Nat.zero_add, List.drop_succ_cons, List.drop_zero]
      rw [ih]
    · rw [List.count_cons_of_ne h]
      unfold cutL
      rw [if_neg h, ← ih]
      cases hk : l.count c with
      | zero => rfl
      | succ k =>
        have hm := index_mem c l (by omega)
        have hge := Lib.index_ge l [c]
        obtain ⟨j, hj⟩ : ∃ j : Nat, Lib.index l [c] = j := ⟨(Lib.index l [c]).toNat, by omega⟩
        unfold Lib.splitK
        rw [index_cons, if_neg h, if_neg hm, hj]
        rw [if_neg (by simp; omega), if_neg (by simp)]
        have e1 : ((j : Int) + 1).toNat = j + 1 := by omega
        simp [e1]
theorem split_cells (s : List UInt8) (c : UInt8) : ((Lib.splitB ⟨#[c]⟩ 0 (Lib.countB (S s) ⟨#[c]⟩) (S s)).map Value.string) = (cutL c s).map fun p => Value.string (S p) := by
  have h1 : Lib.countB (S s) ⟨#[c]⟩ = s.count c := by
    unfold Lib.countB
    rw [S_toList]
    exact Lib.count_one c s
  have h2 := Lib.splitB_data ⟨#[c]⟩ 0 (Lib.countB (S s) ⟨#[c]⟩) (S s)
  rw [h1, S_toList] at h2
  rw [h1]
  rw [show (⟨#[c]⟩ : ByteArray).data.toList = [c] from rfl, splitK_cut] at h2
  rw [← h2, List.map_map]
  apply List.map_congr_left
  intro b _
  simp only [Function.comp]
  rw [← S_surj]

theorem cutL_length (c : UInt8) (l : List UInt8) : (cutL c l).length ≤ l.length + 1 := by
  induction l with
  | nil => simp [cutL]
  | cons b l ih =>
    unfold cutL
    split
    · simp; omega
    · obtain ⟨p, ps, h⟩ := cutL_ne c l
      rw [h] at ih ⊢
      simp at ih ⊢
      omega
theorem cutL_le (c : UInt8) (l : List UInt8) : ∀ p ∈ cutL c l, p.length ≤ l.length := by
  induction l with
  | nil => intro p h; simp [cutL] at h; simp [h]
  | cons b l ih =>
    intro p h
    unfold cutL at h
    split at h
    · rcases List.mem_cons.1 h with rfl | h
      · simp
      · have := ih p h; simp; omega
    · obtain ⟨q, ps, e⟩ := cutL_ne c l
      rw [e] at h ih
      rcases List.mem_cons.1 h with rfl | h
      · have := ih q (by simp); simp; omega
      · have := ih p (by simp [h]); simp; omega

def okc (c : UInt8) : Bool := (decide (97 ≤ c.toNat) && decide (c.toNat ≤ 122)) || (decide (48 ≤ c.toNat) && decide (c.toNat ≤ 57)) || decide (c.toNat = 45)
def partF (s : List UInt8) : Bool := decide (1 ≤ s.length) && decide (s.length ≤ 20) && s.all okc
def checkF (s : List UInt8) : Int := if s = [47] then 0 else if 60 < s.length ∨ [47].isPrefixOf s = false then 10 else if (cutL 47 (s.drop 1)).all partF then 0 else 10
def upF (s : List UInt8) : List UInt8 × List UInt8 :=
  if s = [47] ∨ Lib.lastIndexByte (S s) 47 < 0 then ([], []) else if Lib.lastIndexByte (S s) 47 = 0 then ([47], s.drop 1) else (s.take (Lib.lastIndexByte (S s) 47).toNat, s.drop ((Lib.lastIndexByte (S s) 47).toNat + 1))
def joinF (s p : List UInt8) : List UInt8 := if s = [47] then [47] ++ p else s ++ [47] ++ p
def belowF (s up : List UInt8) : Bool := decide (s ≠ up) && ((decide (up = [47]) && decide (s ≠ [])) || (up ++ [47]).isPrefixOf s)
def serialN (s : List UInt8) (n : Nat) : List UInt8 := s ++ Lib.repeatL [48] (10 - (Lib.decDigits n).length) ++ Lib.decDigits n
def serialF (s : List UInt8) (n : Int) : List UInt8 := serialN s n.toNat

set_option maxRecDepth 100000 in
theorem part_path (w : World) (s : List UInt8) (hs : s.length ≤ 9223372036854775807) :
    Calls Tryz.prog 113 #[.string (S s)] w fun e w' => e = .returned (.bool (partF s)) ∧ Keeps (fun _ => False) w w' := by
  obtain ⟨c, w2, hconv, hsrc, hk2⟩ := run_toBytes (P := Tryz.prog) w Tryz.underlying9 Tryz.underlying99 Tryz.underlying5 s
  by_cases h0 : s = []
  · subst h0
    clear hsrc hconv hk2
    go_enter Tryz.func113, Tryz.ntmps113
    go_wp2_with fail
    go_ret
    exact ⟨rfl, Keeps.refl _ w⟩
  · have hs2 : s.isEmpty = false := by simpa using h0
    have hl0 : 1 ≤ s.length := by cases s with | nil => exact absurd rfl h0 | cons a l => simp
    by_cases h1 : 20 < s.length
    · have e : partF s = false := by simp [partF]; omega
      rw [e]
      clear hsrc hconv hk2 h0 e
      go_enter Tryz.func113, Tryz.ntmps113
      go_wp2_with fail
      go_ret
      exact ⟨rfl, Keeps.refl _ w⟩
    · have HK := hide hk2
      clear hk2 h0
      go_enter Tryz.func113, Tryz.ntmps113
      go_wp2_with fail
      clear hconv
      go_loop [15] (fun i => ∃ k : Nat, k ≤ s.length ∧ i = .int .i64 k ∧ (s.take k).all okc = true) (fun i => s.length - (intOf i).toNat)
      case atStart => exact ⟨0, by omega, rfl, rfl⟩
      case round =>
        obtain ⟨k, hk, rfl, hall⟩ := hrel
        have HA := hide hall
        clear hall
        by_cases hlt : k < s.length
        · obtain ⟨u, hu, hc⟩ := hsrc.at0 hlt
          simp only [Bs, List.getElem?_map, Option.map_eq_some_iff] at hu
          obtain ⟨b, hb, rfl⟩ := hu
          have HB := hide hb
          clear hb
          unfold B at hc
          have hok : okc b = ((decide (97 ≤ b.toNat) && decide (b.toNat ≤ 122)) || (decide (48 ≤ b.toNat) && decide (b.toNat ≤ 57)) || decide (b.toNat = 45)) := rfl
          have HOK := hide hok
          have hb2 := b.toNat_lt
          clear hok
          go_wp2_with fail
          all_goals first
            | (go_ret
               have hno : okc b = false := by
                 rw [HOK.out]
                 simp only [bne_iff_ne, ne_eq] at *
                 simp
                 omega
               refine ⟨congrArg (fun b => Ending.returned (.bool b)) ?_, HK.out⟩
               have : s.all okc = false := by
                 rw [List.all_eq_false]
                 exact ⟨b, List.mem_of_getElem? HB.out, by simp [hno]⟩
               simp [partF, this])
            | (have hyes : okc b = true := by
                 rw [HOK.out]
                 simp only [bne_eq_false_iff_eq] at *
                 simp
                 omega
               refine ⟨⟨k + 1, by omega, by go_num, ?_⟩, by simp [intOf]; omega⟩
               obtain ⟨hk', e⟩ := List.getElem?_eq_some_iff.1 HB.out
               rw [List.take_succ_eq_append_getElem hk', List.all_append, HA.out, e]
               simp [hyes])
        · obtain rfl : k = s.length := by omega
          go_wp2_with fail
          go_ret
          refine ⟨congrArg (fun b => Ending.returned (.bool b)) ?_, HK.out⟩
          have := HA.out
          rw [List.take_length] at this
          simp [partF, this]
          omega

/-- the library's own variable holds some number -/
def GL (w : World) : Prop := ∃ m : Int, w.cell? ⟨0, 0, none⟩ = some (.int .i64 m)
theorem GL.keep {w w' : World} {F : Nat → Prop} (h : GL w) (hk : Keeps F w w') (hF : ¬ F 0) : GL w' := by
  obtain ⟨m, hm⟩ := h
  exact ⟨m, hk.cell hm hF⟩

theorem prefix_lib (w : World) (s p : List UInt8) :
    Calls Tryz.prog 111 #[.string (S s), .string (S p)] w fun e w' => e = .returned (.bool (p.isPrefixOf s)) ∧ w = w' := by
  refine (Tryz.strings_HasPrefix (S s) (S p) w).mono ?_
  rintro e w' ⟨rfl, rfl⟩
  simp [Lib.hasPrefix]
theorem split_lib (w : World) (s : List UInt8) (c : UInt8) (hs : s.length < 4294967281) (hG : GL w) :
    Calls Tryz.prog 112 #[.string (S s), .string (S [c])] w fun e w' => e = .returned (.slice (some ⟨w.heap.size, 0, none⟩) (cutL c s).length (cutL c s).length) ∧ w' = w.alloc (.cells (Ss (cutL c s)).toArray 9) := by
  obtain ⟨m, hm⟩ := hG
  refine (Tryz.strings_Split (S s) (S [c]) m w (by simpa using hs) hm (by simp)).mono ?_
  rintro e w' ⟨rfl, rfl⟩
  have h1 := split_cells s c
  have h2 : Lib.countB (S s) ⟨#[c]⟩ + 1 = (cutL c s).length := by
    have := congrArg List.length h1
    simp only [List.length_map] at this
    rw [← this]
    exact (Lib.splitB_all ⟨#[c]⟩ (Nat.le_refl 1) 0 _ (S s) rfl).symm
  have h3 : (⟨#[c]⟩ : ByteArray) = S [c] := rfl
  rw [h3] at h1 h2
  rw [h1, h2]
  exact ⟨rfl, rfl⟩

set_option maxRecDepth 100000 in
set_option maxHeartbeats 2000000 in
theorem check_path (w : World) (s : List UInt8) (hs : s.length ≤ 9223372036854775807) (hG : GL w) :
    Calls Tryz.prog 95 #[.string (S s)] w fun e w' => e = .returned (.int .i64 (checkF s)) ∧ Keeps (fun _ => False) w w' := by
  by_cases h0 : s = [47]
  · subst h0
    go_enter Tryz.func95, Tryz.ntmps95
    go_wp2_with fail
    go_ret
    exact ⟨rfl, Keeps.refl _ w⟩
  · have HC : Hid (checkF s = if 60 < s.length ∨ [47].isPrefixOf s = false then 10 else if (cutL 47 (s.drop 1)).all partF then 0 else 10) := by
      show checkF s = _
      unfold checkF
      rw [if_neg h0]
    have h0b : (s == [47]) = false := by simpa using h0
    clear h0
    by_cases h1 : 60 < s.length
    · have e : checkF s = 10 := by rw [HC.out, if_pos (.inl h1)]
      rw [e]
      clear e
      go_enter Tryz.func95, Tryz.ntmps95
      go_wp2_with fail
      go_ret
      exact ⟨rfl, Keeps.refl _ w⟩
    · have hp := prefix_lib w s [47]
      cases h2 : [47].isPrefixOf s
      · rw [h2] at hp
        have e : checkF s = 10 := by rw [HC.out, if_pos (.inr h2)]
        rw [e]
        clear e h2
        go_enter Tryz.func95, Tryz.ntmps95
        go_wp2_with fail
        refine hp.mono ?_
        rintro e w1 ⟨rfl, rfl⟩
        go_wp2_with fail
        go_ret
        exact ⟨rfl, Keeps.refl _ w⟩
      · rw [h2] at hp
        have e : checkF s = if (cutL 47 (s.drop 1)).all partF then 0 else 10 := by rw [HC.out, if_neg (by simp [h2]; omega)]
        rw [e]
        have hl : 1 ≤ s.length := by cases s with | nil => simp at h2 | cons a l => simp
        obtain ⟨R, hR⟩ : ∃ R : Int, (if (cutL 47 (s.drop 1)).all partF then (0 : Int) else 10) = R := ⟨_, rfl⟩
        rw [hR]
        have HR := hide hR
        clear e h2 HC hR
        go_enter Tryz.func95, Tryz.ntmps95
        go_wp2_with fail
        refine hp.mono ?_
        rintro e w1 ⟨rfl, rfl⟩
        go_wp2_with fail
        rw [show (S s).extract 1 s.length = S (s.drop 1) from by rw [S_extract, List.take_length]]
        refine (split_lib w (s.drop 1) 47 (by simp; omega) hG).mono ?_
        rintro e w1 ⟨rfl, rfl⟩
        have hsm : ∀ p ∈ cutL 47 (s.drop 1), p.length ≤ 60 := by
          have h3 := cutL_le 47 (s.drop 1)
          intro p hp
          have := h3 p hp
          simp only [List.length_drop] at this
          omega
        have HS := hide hsm
        have hlen : (cutL 47 (s.drop 1)).length ≤ 61 := by
          have := cutL_length 47 (s.drop 1)
          simp only [List.length_drop] at this
          omega
        generalize cutL 47 (s.drop 1) = ps at *
        have hb := Blk.new (w := w) (cs := (Ss ps).toArray) (e := 9) rfl
        clear hp hsm
        have HB := hide hb
        clear hb
        have HK := hide ((Keeps.refl (fun _ => False) w).alloc (.cells (Ss ps).toArray 9))
        generalize w.alloc (.cells (Ss ps).toArray 9) = w1 at *
        go_wp2_with fail
        go_loopw [21] (fun i wr => ∃ k : Nat, k ≤ ps.length ∧ i = .int .i64 k ∧ (ps.take k).all partF = true ∧ Keeps (fun _ => False) w1 wr) (fun i _ => ps.length - (intOf i).toNat)
        case atStart => exact ⟨0, by omega, rfl, rfl, Keeps.refl _ _⟩
        case round =>
          obtain ⟨k, hk, rfl, hall, hK⟩ := hrel
          have HA := hide hall
          clear hall
          by_cases hlt : k < ps.length
          · have c0 : wr.cell? ⟨w.heap.size, k, none⟩ = some (.string (S ps[k])) := (HB.out.kept hK (fun h => h)).cell k _ (by simp [Ss, hlt])
            have hpl := HS.out ps[k] (List.getElem_mem hlt)
            have HP := hide (List.getElem?_eq_getElem hlt)
            generalize ps[k] = p at *
            go_wp2_with fail
            refine (part_path _ p (by omega)).mono ?_
            cases hpart : partF p
            · rintro e w2 ⟨rfl, hk2⟩
              have e : ps.all partF = false := by
                rw [List.all_eq_false]
                exact ⟨p, List.mem_of_getElem? HP.out, by simp [hpart]⟩
              have E := hide e
              have HK2 := hide ((HK.out.trans' hK).trans' hk2)
              clear hpart e hk2 hK
              go_wp2_with fail
              go_ret
              exact ⟨by rw [← HR.out, E.out]; rfl, HK2.out⟩
            · rintro e w2 ⟨rfl, hk2⟩
              have HPP := hide hpart
              clear hpart
              go_wp2_with fail
              go_roundw
              case rel =>
                refine ⟨k + 1, by omega, by go_num, ?_, hK.trans' hk2⟩
                obtain ⟨hk', e⟩ := List.getElem?_eq_some_iff.1 HP.out
                rw [List.take_succ_eq_append_getElem hk', List.all_append, HA.out, e]
                simp [HPP.out]
              case measure => simp [intOf]; omega
          · obtain rfl : k = ps.length := by omega
            rw [List.take_length] at HA
            go_wp2_with fail
            go_ret
            exact ⟨by rw [← HR.out, HA.out]; rfl, HK.out.trans' hK⟩

theorem last_lib (w : World) (s : List UInt8) (hs : s.length ≤ 140737488355328) :
    Calls Tryz.prog 106 #[.string (S s), .int .u8 47] w fun e w' => e = .returned (.int .i64 (Lib.lastIndexByte (S s) 47)) ∧ w = w' := by
  refine (Tryz.strings_LastIndexByte (S s) 47 (by simp; omega) w).mono ?_
  rintro e w' ⟨rfl, rfl⟩
  exact ⟨rfl, rfl⟩
theorem last_lt (s : List UInt8) : -1 ≤ Lib.lastIndexByte (S s) 47 ∧ Lib.lastIndexByte (S s) 47 < s.length := by
  rcases Lib.lastIndexByte_spec (S s) 47 with ⟨e, _⟩ | ⟨i, hi, e, _⟩
  · rw [e]; omega
  · rw [e]; simp at hi; omega

set_option maxRecDepth 100000 in
set_option maxHeartbeats 1000000 in
theorem up_path (w : World) (s : List UInt8) (hs : s.length ≤ 140737488355328) :
    Calls Tryz.prog 88 #[.string (S s)] w fun e w' => e = .returned (.tuple #[.string (S (upF s).1), .string (S (upF s).2)]) ∧ Keeps (fun _ => False) w w' := by
  have hl := last_lib w s hs
  have hb := last_lt s
  have HU : Hid (upF s = if s = [47] ∨ Lib.lastIndexByte (S s) 47 < 0 then ([], []) else if Lib.lastIndexByte (S s) 47 = 0 then ([47], s.drop 1) else (s.take (Lib.lastIndexByte (S s) 47).toNat, s.drop ((Lib.lastIndexByte (S s) 47).toNat + 1))) := rfl
  generalize Lib.lastIndexByte (S s) 47 = i at *
  generalize upF s = U at *
  obtain ⟨b1, b2⟩ := hb
  by_cases h0 : s = [47]
  · have e : U = ([], []) := by rw [HU.out, if_pos (.inl h0)]
    subst e
    have h0b : (s == [47]) = true := by simpa using h0
    clear h0
    go_enter Tryz.func88, Tryz.ntmps88
    go_wp2_with fail
    refine hl.mono ?_
    rintro e w1 ⟨rfl, rfl⟩
    go_wp2_with fail
    go_ret2
    exact ⟨rfl, Keeps.refl _ w⟩
  · have h0b : (s == [47]) = false := by simpa using h0
    by_cases h1 : i < 0
    · have e : U = ([], []) := by rw [HU.out, if_pos (.inr h1)]
      subst e
      clear h0
      go_enter Tryz.func88, Tryz.ntmps88
      go_wp2_with fail
      refine hl.mono ?_
      rintro e w1 ⟨rfl, rfl⟩
      go_wp2_with fail
      go_ret2
      exact ⟨rfl, Keeps.refl _ w⟩
    · by_cases h2 : i = 0
      · have e : U = ([47], s.drop 1) := by rw [HU.out, if_neg (by simp [h0]; omega), if_pos h2]
        subst e
        subst h2
        have e2 : (S s).extract 1 s.length = S (s.drop 1) := by rw [S_extract, List.take_length]
        have E2 := hide e2
        clear h0 e2
        go_enter Tryz.func88, Tryz.ntmps88
        go_wp2_with fail
        refine hl.mono ?_
        rintro e w1 ⟨rfl, rfl⟩
        go_wp2_with fail
        go_quiet (fail)
        go_wp2_with fail
        go_ret2
        exact ⟨by rw [← E2.out]; rfl, (Keeps.refl _ w).drewN _⟩
      · obtain ⟨k, rfl⟩ := Int.eq_ofNat_of_zero_le (by omega : 0 ≤ i)
        have e : U = (s.take k, s.drop (k + 1)) := by rw [HU.out, if_neg (by simp [h0]), if_neg h2, Int.toNat_natCast]
        subst e
        have h2b : ((k : Int) == 0) = false := by simpa using h2
        have e2 : (S s).extract (k + 1) s.length = S (s.drop (k + 1)) := by rw [S_extract, List.take_length]
        have e3 : (S s).extract 0 k = S (s.take k) := by rw [S_extract]; rfl
        have E2 := hide e2
        have E3 := hide e3
        have w1 : IntKind.i64.wrap ((k : Int) + 1) = (k : Int) + 1 := IntWalk.i64_in _ ⟨by omega, by omega⟩
        have w2 : (0 : Int) ≤ (k : Int) + 1 := by omega
        have w3 : ((k : Int) + 1).toNat = k + 1 := by omega
        have w4 : (k : Int) + 1 ≤ s.length := by omega
        clear h0 e2 e3 h2
        go_enter Tryz.func88, Tryz.ntmps88
        go_wp2_with fail
        refine hl.mono ?_
        rintro e w1 ⟨rfl, rfl⟩
        go_wp2_with fail
        go_quiet (fail)
        go_wp2_with fail
        go_ret2
        exact ⟨by rw [← E2.out, ← E3.out]; rfl, (Keeps.refl _ w).drewN _⟩

/-- numbers of up to two digits: no table is read -/
theorem itoa_lib (w : World) (n : Nat) (hn : n < 100) :
    Calls Tryz.prog 154 #[.int .i64 n] w fun e w' => e = .returned (.string (S (Lib.decDigits n))) ∧ w = w' := by
  refine (Tryz.strconv_Itoa_small n hn w).mono ?_
  rintro e w' ⟨rfl, rfl⟩
  exact ⟨rfl, rfl⟩
theorem repeat_lib (w : World) (s : List UInt8) (c : Nat) (hc : c ≤ 1000) (hs : s.length ≤ 1000) :
    Calls Tryz.prog 155 #[.string (S s), .int .i64 c] w fun e w' => e = .returned (.string (S (Lib.repeatL s c))) ∧ Keeps (fun _ => False) w w' := by
  refine (Tryz.strings_Repeat (S s) c w (by omega) (by
    rw [S_size]
    have := Nat.mul_le_mul hs hc
    omega)).mono ?_
  rintro e w' ⟨rfl, hb⟩
  exact ⟨by simp [S], (Keeps.of_below hb).mono fun k hk h => by omega⟩
theorem dec_small (n : Nat) (hn : n < 100) : 1 ≤ (Lib.decDigits n).length ∧ (Lib.decDigits n).length ≤ 2 := by
  rw [Lib.decDigits]
  split
  · simp
  · rw [Lib.decDigits, dif_pos (by omega)]
    simp

set_option maxRecDepth 100000 in
theorem serial_path (w : World) (s : List UInt8) (n : Int) (h0 : 0 ≤ n) (hn : n < 100) (hs : s.length ≤ 140737488355000) :
    Calls Tryz.prog 127 #[.string (S s), .int .i64 n] w fun e w' => e = .returned (.string (S (serialF s n))) ∧ Keeps (fun _ => False) w w' := by
  obtain ⟨n, rfl⟩ := Int.eq_ofNat_of_zero_le h0
  have hn2 : n < 100 := by omega
  have hi := itoa_lib w n hn2
  have HF : Hid (serialF s n = s ++ Lib.repeatL [48] (10 - (Lib.decDigits n).length) ++ Lib.decDigits n) := by
    show serialF s n = _
    unfold serialF serialN
    rw [Int.toNat_natCast]
  obtain ⟨d1, d2⟩ := dec_small n hn2
  generalize Lib.decDigits n = d at *
  have hr := repeat_lib w [48] (10 - d.length) (by omega) (by simp)
  have hlen := Lib.repeatL_length [48] (10 - d.length)
  have hlen2 : (Lib.repeatL [48] (10 - d.length)).length ≤ 10 := by rw [hlen]; simp
  generalize Lib.repeatL [48] (10 - d.length) = z at *
  have hc : (((10 - d.length : Nat)) : Int) = max 0 (10 - (d.length : Int)) := by omega
  rw [hc] at hr
  have HR := hide hr
  clear hc hr hlen
  go_enter Tryz.func127, Tryz.ntmps127
  go_wp2_with fail
  refine hi.mono ?_
  rintro e w1 ⟨rfl, rfl⟩
  go_wp2_with fail
  refine HR.out.mono ?_
  rintro e w2 ⟨rfl, hk⟩
  have HK := hide hk
  clear hk
  have e2 : S s ++ S z ++ S d = S (s ++ z ++ d) := by rw [← S_append, ← S_append]
  have E2 := hide e2
  clear e2
  go_wp2_with fail
  go_ret
  exact ⟨by rw [HF.out, ← E2.out]; rfl, HK.out⟩
end

section
set_option linter.unusedVariables false
/-- the last k digits of u -/
def fixD : Nat → Nat → List UInt8
  | 0, _ => []
  | k + 1, u => fixD k (u / 10) ++ [UInt8.ofNat (48 + u % 10)]
theorem fixD_length (k u : Nat) : (fixD k u).length = k := by
  induction k generalizing u with
  | zero => rfl
  | succ k ih => simp [fixD, ih]
theorem repeatL_snoc (a : UInt8) (k : Nat) : Lib.repeatL [a] k ++ [a] = Lib.repeatL [a] (k + 1) := by
  induction k with
  | zero => rfl
  | succ k ih =>
    show [a] ++ Lib.repeatL [a] k ++ [a] = [a] ++ Lib.repeatL [a] (k + 1)
    rw [List.append_assoc, ih]
theorem fixD_zero (k : Nat) : fixD k 0 = Lib.repeatL [48] k := by
  induction k with
  | zero => rfl
  | succ k ih =>
    show fixD k 0 ++ [48] = _
    rw [ih, repeatL_snoc]
theorem pad_fix (k u : Nat) (hk : 1 ≤ k) (hu : u < 10 ^ k) : (Lib.decDigits u).length ≤ k ∧ Lib.repeatL [48] (k - (Lib.decDigits u).length) ++ Lib.decDigits u = fixD k u := by
  induction k generalizing u with
  | zero => omega
  | succ k ih =>
    by_cases h : u < 10
    · rw [Lib.decDigits_one h]
      refine ⟨by simp, ?_⟩
      have e1 : u / 10 = 0 := by omega
      have e2 : u % 10 = u := by omega
      simp only [fixD, e1, e2, fixD_zero, List.length_singleton]
      simp
    · have hk2 : 1 ≤ k := by
        rcases Nat.eq_zero_or_pos k with rfl | h2
        · simp at hu; omega
        · exact h2
      have hu2 : u / 10 < 10 ^ k := by
        rw [Nat.pow_succ] at hu
        omega
      obtain ⟨i1, i2⟩ := ih (u / 10) hk2 hu2
      have e : Lib.decDigits u = Lib.decDigits (u / 10) ++ [UInt8.ofNat (48 + u % 10)] := by
        conv => lhs; rw [Lib.decDigits, dif_neg h]
      rw [e]
      refine ⟨by simp; omega, ?_⟩
      have e3 : k + 1 - (Lib.decDigits (u / 10) ++ [UInt8.ofNat (48 + u % 10)]).length = k - (Lib.decDigits (u / 10)).length := by simp
      rw [e3, ← List.append_assoc, i2]
      rfl
theorem decFrom_app (acc : Nat) (l m : List UInt8) : Lib.decFrom acc (l ++ m) = (Lib.decFrom acc l).bind fun a => Lib.decFrom a m := by
  induction l generalizing acc with
  | nil => rfl
  | cons a t ih =>
    simp only [List.cons_append, Lib.decFrom]
    cases Lib.digitVal a with
    | none => rfl
    | some e => exact ih _
theorem digit_of (d : Nat) (h : d < 10) : Lib.digitVal (UInt8.ofNat (48 + d)) = some d := by
  have : ∀ d < 10, Lib.digitVal (UInt8.ofNat (48 + d)) = some d := by decide
  exact this d h
theorem fixD_dec (k u acc : Nat) (hu : u < 10 ^ k) : Lib.decFrom acc (fixD k u) = some (acc * 10 ^ k + u) := by
  induction k generalizing u with
  | zero => simp at hu; subst hu; simp [fixD, Lib.decFrom]
  | succ k ih =>
    have hu2 : u / 10 < 10 ^ k := by
      rw [Nat.pow_succ] at hu
      omega
    simp only [fixD]
    rw [decFrom_app, ih _ hu2]
    simp only [Option.bind_some, Lib.decFrom, digit_of _ (Nat.mod_lt u (by decide))]
    congr 1
    rw [Nat.pow_succ, Nat.add_mul, Nat.mul_assoc]
    omega
theorem fixD_digit (k u : Nat) : ∀ b ∈ fixD k u, 48 ≤ b.toNat ∧ b.toNat ≤ 57 := by
  induction k generalizing u with
  | zero => simp [fixD]
  | succ k ih =>
    intro b hb
    simp only [fixD, List.mem_append, List.mem_singleton] at hb
    rcases hb with hb | rfl
    · exact ih _ b hb
    · have : ∀ d < 10, 48 ≤ (UInt8.ofNat (48 + d)).toNat ∧ (UInt8.ofNat (48 + d)).toNat ≤ 57 := by decide
      exact this _ (Nat.mod_lt u (by decide))
theorem fixD_atoi (u : Nat) (hu : u < 10 ^ 10) : Lib.atoi (fixD 10 u) = some (u : Int) := by
  have h1 := fixD_dec 10 u 0 hu
  have h2 := fixD_length 10 u
  have h3 := fixD_digit 10 u
  generalize fixD 10 u = l at *
  cases l with
  | nil => simp at h2
  | cons b r =>
    obtain ⟨h4, h5⟩ := h3 b (by simp)
    have n45 : (b == 45) = false := by
      simp only [beq_eq_false_iff_ne, ne_eq]
      rintro rfl
      exact absurd h4 (by decide)
    have n43 : (b == 43) = false := by
      simp only [beq_eq_false_iff_ne, ne_eq]
      rintro rfl
      exact absurd h4 (by decide)
    unfold Lib.atoi
    simp only [n45, n43]
    unfold Lib.decNat
    simp [h1]
end

section
set_option linter.unusedVariables false
open Go.RowKit

def pid (n : Int) : Nat := (n % 18446744073709551616 % 5).toNat
def nameP : Nat → List UInt8
  | 0 => [97]
  | 1 => [98]
  | 2 => [99]
  | 3 => [110, 49]
  | _ => [120, 45, 121]
def bodyP (ns : List Int) : List UInt8 := ns.flatMap fun n => 47 :: nameP (pid n)
def madeP (ns : List Int) : List UInt8 := if bodyP ns = [] then [47] else bodyP ns
theorem pid_lt (n : Int) : pid n < 5 := by unfold pid; omega
theorem pid_at (n : Int) : (IntKind.u64.wrap n).tmod 5 = pid n := by
  have h : IntKind.u64.wrap n = n % 18446744073709551616 := by
    simp [IntKind.wrap, IntKind.signed, IntKind.bits]
  rw [h, Int.tmod_eq_emod_of_nonneg (by omega)]
  unfold pid
  omega
theorem nameP_le (k : Nat) : (nameP k).length ≤ 3 := by
  unfold nameP
  split <;> simp
theorem bodyP_le (ns : List Int) : (bodyP ns).length ≤ 4 * ns.length := by
  unfold bodyP
  induction ns with
  | nil => simp
  | cons a r ih =>
    have := nameP_le (pid a)
    simp only [List.flatMap_cons, List.length_append, List.length_cons] at ih ⊢
    omega
theorem madeP_le (ns : List Int) : (madeP ns).length ≤ 4 * ns.length + 1 := by
  have := bodyP_le ns
  unfold madeP
  split
  · simp
  · omega
theorem bodyP_take (ns : List Int) (k : Nat) (x : Int) (h : ns[k]? = some x) : bodyP (ns.take (k + 1)) = bodyP (ns.take k) ++ 47 :: nameP (pid x) := by
  obtain ⟨hk, rfl⟩ := List.getElem?_eq_some_iff.1 h
  unfold bodyP
  rw [List.take_succ_eq_append_getElem hk, List.flatMap_append]
  simp
theorem bodyP_eq (ns : List Int) : bodyP ns = [] ↔ ns = [] := by
  cases ns with
  | nil => simp [bodyP]
  | cons a r => simp [bodyP]

theorem app47 (l m : List UInt8) : S (l ++ 47 :: m) = S l ++ S [47] ++ S m := by
  rw [S_append, S_append]
  simp

end

section
set_option linter.unusedVariables false
set_option linter.unusedSimpArgs false
open Go.RowKit

end

section
set_option linter.unusedVariables false
open Go.RowKit

theorem madeP_ne (ns : List Int) : madeP ns ≠ [] := by
  unfold madeP
  split
  · simp
  · assumption
theorem below_spec {s up : List UInt8} : belowF s up = true ↔ s ≠ up ∧ ((up = [47] ∧ s ≠ []) ∨ (up ++ [47]) <+: s) := by
  simp [belowF]
theorem below_trans {x y z : List UInt8} (hz : z ≠ []) (h1 : belowF x y = true) (h2 : belowF y z = true) : belowF x z = true := by
  rw [below_spec] at *
  obtain ⟨n1, h1⟩ := h1
  obtain ⟨n2, h2⟩ := h2
  have lz : 0 < z.length := List.length_pos_iff.2 hz
  rcases h1 with ⟨rfl, hx⟩ | h1
  · rcases h2 with ⟨rfl, _⟩ | h2
    · exact absurd rfl n2
    · have := h2.length_le
      simp at this
      exact absurd this hz
  · have l1 := h1.length_le
    simp at l1
    rcases h2 with ⟨rfl, hy⟩ | h2
    · have ly : 0 < y.length := List.length_pos_iff.2 hy
      refine ⟨?_, .inl ⟨rfl, ?_⟩⟩
      · rintro rfl; simp at l1; exact hy l1
      · rintro rfl; simp at l1
    · have l2 := h2.length_le
      simp at l2
      refine ⟨?_, .inr (h2.trans ((List.prefix_append y [47]).trans h1))⟩
      rintro rfl
      omega
theorem below_asym {x y : List UInt8} (hx : x ≠ []) (hy : y ≠ []) (h1 : belowF x y = true) : belowF y x = false := by
  rw [Bool.eq_false_iff]
  intro h2
  rw [below_spec] at *
  obtain ⟨n1, h1⟩ := h1
  obtain ⟨n2, h2⟩ := h2
  have lx : 0 < x.length := List.length_pos_iff.2 hx
  have ly : 0 < y.length := List.length_pos_iff.2 hy
  rcases h1 with ⟨rfl, _⟩ | h1
  · rcases h2 with ⟨rfl, _⟩ | h2
    · exact absurd rfl n2
    · have := h2.length_le
      simp at this
      exact absurd this hx
  · have l1 := h1.length_le
    simp at l1
    rcases h2 with ⟨rfl, _⟩ | h2
    · simp at l1; exact absurd l1 hy
    · have l2 := h2.length_le
      simp at l2
      omega
theorem below_root {x : List UInt8} (hx : x ≠ []) : belowF x [47] = decide (x ≠ [47]) := by
  unfold belowF
  by_cases h : x = [47]
  · simp [h]
  · simp [h, hx]
end

section
set_option linter.unusedVariables false
set_option linter.unusedSimpArgs false
open Go.RowKit

/-- the scan of the law: from a place on, with the part at hand and what was wanted -/
theorem cutL_app (c : UInt8) (p l : List UInt8) (hp : c ∉ p) : ∃ q qs, cutL c l = q :: qs ∧ cutL c (p ++ l) = (p ++ q) :: qs := by
  induction p with
  | nil =>
    obtain ⟨q, qs, h⟩ := cutL_ne c l
    exact ⟨q, qs, h, h⟩
  | cons b p ih =>
    simp only [List.mem_cons, not_or] at hp
    obtain ⟨q, qs, h1, h2⟩ := ih hp.2
    refine ⟨q, qs, h1, ?_⟩
    rw [List.cons_append]
    unfold cutL
    rw [if_neg (fun e => hp.1 e.symm), h2]
    rfl
theorem cutL_sep (c : UInt8) (p l : List UInt8) (hp : c ∉ p) : cutL c (p ++ c :: l) = p :: cutL c l := by
  obtain ⟨q, qs, h1, h2⟩ := cutL_app c p (c :: l) hp
  have e : cutL c (c :: l) = [] :: cutL c l := by
    conv => lhs; unfold cutL
    rw [if_pos rfl]
  rw [e] at h1
  injection h1 with h3 h4
  subst h3 h4
  simpa using h2

theorem cutL_none_ {c : UInt8} {l : List UInt8} (h : c ∉ l) : cutL c l = [l] := by
  obtain ⟨q, qs, h1, h2⟩ := cutL_app c l [] h
  have e : cutL c [] = [[]] := rfl
  rw [e] at h1
  injection h1 with h3 h4
  subst h3 h4
  simpa using h2
theorem check_cases (s : List UInt8) : checkF s = 0 ∨ checkF s = 10 := by
  unfold checkF
  split
  · exact .inl rfl
  · split
    · exact .inr rfl
    · split
      · exact .inl rfl
      · exact .inr rfl
/-- what the law wants -/
def wantF (s : List UInt8) : Bool := decide (s = [47]) || (decide (1 < s.length) && decide (s.head? = some 47) && decide (s.length ≤ 60))
theorem prefix_head (s : List UInt8) : [47].isPrefixOf s = decide (s.head? = some 47) := by
  cases s with
  | nil => rfl
  | cons a r =>
    by_cases h : a = 47
    · subst h; simp
    · have : ((47 : UInt8) == a) = false := by simpa using fun e => h e.symm
      simp [List.isPrefixOf, h, this]
theorem check_want (s : List UInt8) (h : s ≠ [47]) : (checkF s == 0) = (wantF s && (cutL 47 (s.drop 1)).all partF) := by
  unfold checkF wantF
  rw [if_neg h, prefix_head]
  generalize (cutL 47 (s.drop 1)).all partF = A
  have h1 : decide (s = [47]) = false := by simpa using h
  rw [h1]
  by_cases h2 : s.head? = some 47
  · have h3 : 1 < s.length := by
      match s, h, h2 with
      | [a], h, h2 => simp at h2; exact absurd (by rw [h2]) h
      | a :: b :: r, _, _ => simp
    by_cases h4 : 60 < s.length
    · have h5 : ¬ s.length ≤ 60 := by omega
      simp [h4, h5]
    · have h5 : s.length ≤ 60 := by omega
      cases A <;> simp [h2, h3, h4, h5]
  · simp [h2]

/-- how far the scan is: what is behind it, the part at hand -/
theorem scan_step (s p : List UInt8) (i : Nat) (c : UInt8) (h : s[i]? = some c) (hc : c ≠ 47) : (p ++ [c]) ++ s.drop (i + 1) = p ++ s.drop i := by
  obtain ⟨hi, rfl⟩ := List.getElem?_eq_some_iff.1 h
  rw [List.drop_eq_getElem_cons hi]
  simp

end

section
set_option linter.unusedVariables false
set_option linter.unusedSimpArgs false
theorem last_sep (l p : List UInt8) (h : (47 : UInt8) ∉ p) : Lib.lastIndexByte (S (l ++ 47 :: p)) 47 = l.length := by
  rcases Lib.lastIndexByte_spec (S (l ++ 47 :: p)) 47 with ⟨_, hn⟩ | ⟨i, hi, e, hc, hl⟩
  · exfalso
    have := hn l.length (by simp)
    apply this
    simp [S]
  · rw [e]
    have hi2 : i < (l ++ 47 :: p).length := by simpa using hi
    have hc2 : (((l ++ 47 :: p)[i]'hi2).toNat : Int) = 47 := by
      rw [getElem!_pos _ _ (by simpa [S] using hi2)] at hc
      simpa [S] using hc
    rcases Nat.lt_trichotomy i l.length with h1 | h1 | h1
    · exfalso
      have := hl l.length h1 (by simp)
      apply this
      rw [getElem!_pos _ _ (by simp [S])]
      simp [S]
    · exact congrArg Nat.cast h1
    · exfalso
      apply h
      have hm : (l ++ 47 :: p)[i]'hi2 = 47 := UInt8.toNat_inj.1 (by have h2 : (47 : UInt8).toNat = 47 := rfl; omega)
      rw [List.getElem_append_right (by omega)] at hm
      obtain ⟨j, hj⟩ : ∃ j, i - l.length = j + 1 := ⟨i - l.length - 1, by omega⟩
      simp only [hj, List.getElem_cons_succ] at hm
      rw [← hm]
      exact List.getElem_mem _

/-- a path of these parts, and one more -/
def joinP (l : List Int) (p : List UInt8) : List UInt8 := bodyP l ++ 47 :: p
theorem body_len (l : List Int) : bodyP l = [] ∨ 2 ≤ (bodyP l).length := by
  cases l with
  | nil => exact .inl rfl
  | cons a r =>
    right
    have : 1 ≤ (nameP (pid a)).length := by unfold nameP; split <;> simp
    simp only [bodyP, List.flatMap_cons, List.length_append, List.length_cons]
    omega
theorem madeP_root (l : List Int) : madeP l = [47] ↔ l = [] := by
  rw [← bodyP_eq]
  unfold madeP
  by_cases h : bodyP l = []
  · simp [h]
  · rw [if_neg h]
    have := (body_len l).resolve_left h
    constructor
    · intro e; rw [e] at this; simp at this
    · intro e; exact absurd e h
theorem join_made (l : List Int) (p : List UInt8) : joinF (madeP l) p = joinP l p := by
  unfold joinF joinP
  by_cases h : madeP l = [47]
  · have h2 := (madeP_root l).1 h
    subst h2
    rfl
  · have h2 : bodyP l ≠ [] := fun e => h ((madeP_root l).2 ((bodyP_eq l).1 e))
    rw [if_neg h]
    unfold madeP
    rw [if_neg h2]
    simp
theorem made_join (l : List Int) (x : Int) : madeP (l ++ [x]) = joinP l (nameP (pid x)) := by
  unfold madeP joinP bodyP
  simp
theorem join_inj (l : List Int) (p q : List UInt8) : joinP l p = joinP l q ↔ p = q := by simp [joinP]
theorem part_slash {p : List UInt8} (h : partF p = true) : (47 : UInt8) ∉ p := by
  intro hm
  unfold partF at h
  simp only [Bool.and_eq_true, List.all_eq_true] at h
  have := h.2 47 hm
  exact absurd this (by decide)
theorem part_len {p : List UInt8} (h : partF p = true) : 1 ≤ p.length ∧ p.length ≤ 20 := by
  unfold partF at h
  simp only [Bool.and_eq_true, decide_eq_true_eq] at h
  exact h.1
theorem name_part (k : Nat) : partF (nameP k) = true := by
  unfold nameP
  split <;> decide
theorem up_made (l : List Int) (p : List UInt8) (h : partF p = true) : upF (joinP l p) = (madeP l, p) := by
  have hs := part_slash h
  have hl := part_len h
  unfold upF
  have e : Lib.lastIndexByte (S (joinP l p)) 47 = (bodyP l).length := last_sep _ _ hs
  rw [e, if_neg (by
    rintro (h1 | h1)
    · have := congrArg List.length h1
      simp [joinP] at this
      omega
    · omega)]
  by_cases h0 : bodyP l = []
  · rw [if_pos (by simp [h0])]
    simp [joinP, madeP, h0]
  · rw [if_neg (by simpa using h0)]
    simp [joinP, madeP, h0]
theorem below_made (l : List Int) (p : List UInt8) (h : p ≠ []) : belowF (joinP l p) (madeP l) = true := by
  rw [below_spec]
  by_cases h0 : bodyP l = []
  · have e : madeP l = [47] := by simp [madeP, h0]
    rw [e]
    refine ⟨?_, .inl ⟨rfl, by simp [joinP]⟩⟩
    simp [joinP, h0, h]
  · have e : madeP l = bodyP l := by simp [madeP, h0]
    rw [e]
    refine ⟨?_, .inr ?_⟩
    · intro h1
      have := congrArg List.length h1
      simp [joinP] at this
    · exact ⟨p, by simp [joinP]⟩
theorem below_self (s : List UInt8) : belowF s s = false := by simp [belowF]
theorem join_parts (l : List Int) (p : List UInt8) (h : partF p = true) : (cutL 47 ((joinP l p).drop 1)).all partF = true := by
  induction l with
  | nil =>
    have e : (joinP [] p).drop 1 = p := rfl
    rw [e, cutL_none_ (part_slash h)]
    simp [h]
  | cons a r ih =>
    have e : (joinP (a :: r) p).drop 1 = nameP (pid a) ++ 47 :: (joinP r p).drop 1 := by
      have e2 : joinP r p = 47 :: (joinP r p).drop 1 := by
        cases r with
        | nil => rfl
        | cons b t => simp [joinP, bodyP]
      have e3 : joinP (a :: r) p = 47 :: (nameP (pid a) ++ joinP r p) := by simp [joinP, bodyP]
      rw [e3]
      conv => lhs; rw [e2]
      simp
    rw [e, cutL_sep 47 _ _ (part_slash (name_part _))]
    rw [List.all_cons, ih, name_part]
    rfl
theorem join_want (l : List Int) (p : List UInt8) (h : partF p = true) : checkF (joinP l p) = if (joinP l p).length ≤ 60 then 0 else 10 := by
  have hl := part_len h
  have hne : joinP l p ≠ [47] := by
    intro h1
    have := congrArg List.length h1
    simp [joinP] at this
    omega
  have hp : [47].isPrefixOf (joinP l p) = true := by
    cases l with
    | nil => rfl
    | cons b t => simp [joinP, bodyP]
  unfold checkF
  rw [if_neg hne, join_parts l p h]
  by_cases h6 : (joinP l p).length ≤ 60
  · rw [if_pos h6, if_neg (by rw [hp]; simp; omega)]
    rfl
  · rw [if_neg h6, if_pos (.inl (by omega))]
theorem made_check (l : List Int) (h : l.length ≤ 8) : checkF (madeP l) = 0 := by
  rcases List.eq_nil_or_concat l with rfl | ⟨r, x, rfl⟩
  · rfl
  · have := madeP_le (r ++ [x])
    rw [List.concat_eq_append, made_join] at *
    rw [join_want _ _ (name_part _), if_pos]
    simp only [List.length_append, List.length_cons, List.length_nil] at h this
    omega
theorem name_inj {i j : Nat} (hi : i < 5) (hj : j < 5) {s t : List UInt8} (h : nameP i ++ s <+: nameP j ++ t) : i = j := by
  have key : (nameP i).head? = (nameP j).head? := by
    obtain ⟨u, hu⟩ := h
    have h1 := congrArg List.head? hu
    have hn : ∀ k, nameP k ≠ [] := fun k => by unfold nameP; split <;> simp
    have hd : ∀ k t, (nameP k ++ t).head? = (nameP k).head? := fun k t => by
      cases hk : nameP k with
      | nil => exact absurd hk (hn k)
      | cons a r => rfl
    rw [List.append_assoc, hd, hd] at h1
    exact h1
  have hk : ∀ i < 5, ∀ j < 5, (nameP i).head? = (nameP j).head? → i = j := by decide
  exact hk i hi j hj key
/-- the parts of b are the first of a -/
def agreeP (a b : List Int) : Nat → Bool
  | 0 => true
  | k + 1 => agreeP a b k && decide (pid (a[k]?.getD 0) = pid (b[k]?.getD 0))
theorem agree_cons (x y : Int) (a b : List Int) (k : Nat) : agreeP (x :: a) (y :: b) (k + 1) = (decide (pid x = pid y) && agreeP a b k) := by
  induction k with
  | zero => simp [agreeP]
  | succ k ih =>
    rw [agreeP, ih, agreeP]
    simp [Bool.and_assoc]
theorem body_prefix (a b : List Int) : (bodyP b ++ [47]) <+: bodyP a ↔ b.length < a.length ∧ agreeP a b b.length = true := by
  induction b generalizing a with
  | nil =>
    cases a with
    | nil => simp [bodyP]
    | cons x r => simp [bodyP, agreeP]
  | cons y s ih =>
    cases a with
    | nil => simp [bodyP]
    | cons x r =>
      have e1 : bodyP (y :: s) ++ [47] = 47 :: (nameP (pid y) ++ (bodyP s ++ [47])) := by simp [bodyP]
      have e2 : bodyP (x :: r) = 47 :: (nameP (pid x) ++ bodyP r) := by simp [bodyP]
      rw [e1, e2, List.prefix_cons_inj, List.length_cons, agree_cons]
      by_cases h : pid x = pid y
      · rw [h, List.prefix_append_right_inj, ih]
        simp
      · constructor
        · intro h1
          exact absurd (name_inj (pid_lt _) (pid_lt _) h1).symm h
        · simp [h]
theorem below_agree (a b : List Int) : belowF (madeP a) (madeP b) = (decide (b.length < a.length) && agreeP a b b.length) := by
  by_cases hb : b = []
  · subst hb
    have e : madeP [] = [47] := rfl
    rw [e, below_root (madeP_ne a)]
    have := madeP_root a
    cases a with
    | nil => simp [agreeP, e]
    | cons x r => simp [agreeP, this]
  · have h2 : bodyP b ≠ [] := fun e => hb ((bodyP_eq b).1 e)
    have e : madeP b = bodyP b := by simp [madeP, h2]
    have h3 := (body_len b).resolve_left h2
    rw [Bool.eq_iff_iff, below_spec, e]
    simp only [Bool.and_eq_true, decide_eq_true_eq]
    rw [← body_prefix]
    have h4 : bodyP b ≠ [47] := fun h => by rw [h] at h3; simp at h3
    by_cases ha : bodyP a = []
    · have ea : madeP a = [47] := by simp [madeP, ha]
      rw [ea, ha]
      constructor
      · rintro ⟨_, ⟨h, _⟩ | h⟩
        · exact absurd h h4
        · have := h.length_le
          simp only [List.length_append, List.length_cons, List.length_nil] at this
          omega
      · intro h
        simp at h
    · have ea : madeP a = bodyP a := by simp [madeP, ha]
      rw [ea]
      constructor
      · rintro ⟨_, ⟨h, _⟩ | h⟩
        · exact absurd h h4
        · exact h
      · intro h
        refine ⟨?_, .inr h⟩
        intro h5
        have := h.length_le
        rw [h5] at this
        simp only [List.length_append, List.length_cons, List.length_nil] at this
        omega
theorem made_one (x y : Int) : (madeP [x] = madeP [y]) ↔ pid x = pid y := by
  have e : ∀ z, madeP [z] = 47 :: nameP (pid z) := fun z => by simp [madeP, bodyP]
  rw [e, e]
  constructor
  · intro h
    injection h with _ h
    exact name_inj (s := []) (t := []) (pid_lt _) (pid_lt _) (by simp [h])
  · intro h; rw [h]
end

section
set_option linter.unusedVariables false
set_option linter.unusedSimpArgs false
theorem less_app (s a b : List UInt8) : Op.bytesLess (s ++ a) (s ++ b) = Op.bytesLess a b := by
  induction s with
  | nil => rfl
  | cons x s ih => simp [Op.bytesLess, ih]
theorem less_snoc (l m : List UInt8) (x y : UInt8) (h : l.length = m.length) : Op.bytesLess (l ++ [x]) (m ++ [y]) = (Op.bytesLess l m || (decide (l = m) && decide (x < y))) := by
  induction l generalizing m with
  | nil =>
    cases m with
    | nil => simp [Op.bytesLess]
    | cons b m => simp at h
  | cons a l ih =>
    cases m with
    | nil => simp at h
    | cons b m =>
      have := ih m (by simpa using h)
      simp only [List.cons_append, Op.bytesLess, this]
      by_cases hab : a = b
      · subst hab; simp
      · have h2 : (a == b) = false := by simpa using hab
        simp [hab, h2]
theorem fixD_inj (k u v : Nat) (hu : u < 10 ^ k) (hv : v < 10 ^ k) : fixD k u = fixD k v ↔ u = v := by
  constructor
  · intro h
    have h1 := fixD_dec k u 0 hu
    have h2 := fixD_dec k v 0 hv
    rw [h, h2] at h1
    simpa [eq_comm] using h1
  · rintro rfl; rfl
theorem digit_less (a b : Nat) (ha : a < 10) (hb : b < 10) : decide (UInt8.ofNat (48 + a) < UInt8.ofNat (48 + b)) = decide (a < b) := by
  have : ∀ a < 10, ∀ b < 10, decide (UInt8.ofNat (48 + a) < UInt8.ofNat (48 + b)) = decide (a < b) := by decide +kernel
  exact this a ha b hb
theorem fixD_less (k u v : Nat) (hu : u < 10 ^ k) (hv : v < 10 ^ k) : Op.bytesLess (fixD k u) (fixD k v) = decide (u < v) := by
  induction k generalizing u v with
  | zero => simp at hu hv; subst hu hv; rfl
  | succ k ih =>
    rw [Nat.pow_succ] at hu hv
    have hu2 : u / 10 < 10 ^ k := by omega
    have hv2 : v / 10 < 10 ^ k := by omega
    simp only [fixD]
    rw [less_snoc _ _ _ _ (by rw [fixD_length, fixD_length]), ih _ _ hu2 hv2, digit_less _ _ (Nat.mod_lt _ (by decide)) (Nat.mod_lt _ (by decide)), Bool.eq_iff_iff]
    simp only [Bool.or_eq_true, Bool.and_eq_true, decide_eq_true_eq, fixD_inj k _ _ hu2 hv2]
    omega
end

end Go.Proofs.YtanlobdidjednaaGreatDoor
