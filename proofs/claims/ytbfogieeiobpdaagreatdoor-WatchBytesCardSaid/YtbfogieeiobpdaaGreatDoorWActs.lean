/- The statements of layer 11 over lists of acts: how acts are read; few of them; which watch is ahead. No condition. -/
import Derived.Test.YtbfogieeiobpdaaGreatDoorWHead
import Derived.Test.YtbfogieeiobpdaaGreatDoorWOrd
set_option linter.unusedVariables false
set_option linter.unusedSimpArgs false
namespace Go.Proofs.YtbfogieeiobpdaaGreatDoor
open Go.RowKit

/-- an act: kind, session, number, the path's numbers (where they lie, the slice's capacity), kids, once -/
structure ActW where
  k : Int
  session : Int
  n : Int
  pa : Option Addr
  pc : Nat
  path : List Int
  kids : Bool
  once : Bool
def actWC (a : ActW) : List Value := [.int .i64 a.k, .int .i64 a.session, .int .i64 a.n, .slice a.pa a.path.length a.pc, .bool a.kids, .bool a.once]
abbrev actWV (a : ActW) : Value := .agg #[.int .i64 a.k, .int .i64 a.session, .int .i64 a.n, .slice a.pa a.path.length a.pc, .bool a.kids, .bool a.once]
theorem wact_at {w : World} {A : Option Addr} {xs : List ActW} (h : Src w 6 A xs.length (xs.flatMap actWC)) {k : Nat} (hk : k < xs.length) :
    ∃ ad x, A = some ad ∧ xs[k]? = some x ∧ w.cell? (ad.add (k * 6)) = some (.int .i64 x.k) ∧ w.cell? ⟨(ad.add (k * 6)).block, (ad.add (k * 6)).off + 1, none⟩ = some (.int .i64 x.session) ∧ w.cell? ⟨(ad.add (k * 6)).block, (ad.add (k * 6)).off + 2, none⟩ = some (.int .i64 x.n) ∧ w.cell? ⟨(ad.add (k * 6)).block, (ad.add (k * 6)).off + 3, none⟩ = some (.slice x.pa x.path.length x.pc) ∧ w.cell? ⟨(ad.add (k * 6)).block, (ad.add (k * 6)).off + 4, none⟩ = some (.bool x.kids) ∧ w.cell? ⟨(ad.add (k * 6)).block, (ad.add (k * 6)).off + 5, none⟩ = some (.bool x.once) := by
  obtain ⟨ad, e, hc⟩ := h.2 (by omega)
  have ha := List.getElem?_eq_getElem hk
  have hf := flatK_at (f := actWC) (n := 6) (fun _ => rfl) xs k _ ha
  refine ⟨ad, xs[k], e, ha, hc _ _ (hf 0 _ rfl), ?_, ?_, ?_, ?_, ?_⟩
  · rw [← add_succ, add_add]; exact hc _ _ (hf 1 _ rfl)
  · rw [← add_succ, add_add]; exact hc _ _ (hf 2 _ rfl)
  · rw [← add_succ, add_add]; exact hc _ _ (hf 3 _ rfl)
  · rw [← add_succ, add_add]; exact hc _ _ (hf 4 _ rfl)
  · rw [← add_succ, add_add]; exact hc _ _ (hf 5 _ rfl)
/-- the acts, and each one's path -/
def ActsSrc (w : World) (A : Option Addr) (xs : List ActW) : Prop := Src w 6 A xs.length (xs.flatMap actWC) ∧ ∀ x ∈ xs, Src w 1 x.pa x.path.length (Is x.path)
theorem ActsSrc.keepB {w w' : World} {A : Option Addr} {xs : List ActW} {F : Nat → Prop} (h : ActsSrc w A xs) (hk : Keeps F w w') (hF : ∀ k, k < w.heap.size → ¬ F k) : ActsSrc w' A xs :=
  ⟨h.1.keepB (by decide) hk hF, fun x hx => (h.2 x hx).keepB (by decide) hk hF⟩
theorem ActsSrc.of {W w : World} {L : List Asn} {A : Option Addr} {xs : List ActW} (h : ActsSrc W A xs) (S : Sat W w L) (hm : oldA W ∈ L) : ActsSrc w A xs := h.keepB (S.keepsOf hm) (fun k hk h => by omega)

def fewW (xs : List ActW) : Bool := xs.all (fun a => decide (a.path.length ≤ 12)) && decide (xs.length ≤ 60)

set_option maxRecDepth 100000 in
theorem few_wacts (w : World) (A : Option Addr) (c : Nat) (xs : List ActW) (h : ActsSrc w A xs) (hl : xs.length ≤ 9223372036854775807) :
    Calls Tryz.prog 10 #[.slice A xs.length c] w fun e w' => e = .returned (.bool (fewW xs)) ∧ Keeps (fun _ => False) w w' := by
  have h := h.1
  have HF : Hid (fewW xs = (xs.all (fun a => decide (a.path.length ≤ 12)) && decide (xs.length ≤ 60))) := rfl
  generalize fewW xs = R at *
  have HS := hide h
  clear h
  go_enter Tryz.func10, Tryz.ntmps10
  go_wp2_with fail
  go_loopw [7] (fun i wr => ∃ k : Nat, k ≤ xs.length ∧ i = .int .i64 k ∧ (∀ x ∈ xs.take k, x.path.length ≤ 12) ∧ Keeps (fun _ => False) w wr) (fun i _ => xs.length - (RowKit.intOf i).toNat)
  case atStart => exact ⟨0, by omega, rfl, by simp, Keeps.refl _ _⟩
  case round =>
    obtain ⟨k, hk, rfl, hall, hK⟩ := hrel
    have HA := hide hall
    have HK := hide hK
    clear hall hK
    by_cases hlt : k < xs.length
    · have hlt2 : (k : Int) < (xs.length : Int) := by omega
      have hk0 : (0 : Int) ≤ (k : Int) := by omega
      obtain ⟨ad, x, rfl, hx, d0, d1, d2, d3, d4, d5⟩ := wact_at (HS.out.keep HK.out (fun _ _ h => h)) hlt
      have HX := hide hx
      clear hx
      obtain ⟨x0, x1, x2, xa, xc, xp, x4, x5⟩ := x
      simp only at d0 d1 d2 d3 d4 d5
      by_cases h12 : xp.length ≤ 12
      · have hd : decide ((12 : Int) < (xp.length : Int)) = false := by simp; omega
        go_wp2_with fail
        go_roundw
        case rel =>
          refine ⟨k + 1, by omega, by go_num, ?_, HK.out.alloc _⟩
          intro y hy
          obtain ⟨hk', e1⟩ := List.getElem?_eq_some_iff.1 HX.out
          rw [List.take_succ_eq_append_getElem hk', e1] at hy
          rcases List.mem_append.1 hy with hy | hy
          · exact HA.out y hy
          · simp at hy; subst hy; exact h12
        case measure => simp [RowKit.intOf]; omega
      · have hd : decide ((12 : Int) < (xp.length : Int)) = true := by simp; omega
        go_wp2_with fail
        go_ret
        refine ⟨?_, HK.out.alloc _⟩
        have e : R = false := by
          rw [HF.out, Bool.and_eq_false_iff]
          left
          rw [List.all_eq_false]
          exact ⟨_, List.mem_of_getElem? HX.out, by simpa using h12⟩
        rw [e]
        rfl
    · obtain rfl : k = xs.length := by omega
      go_wp2_with fail
      go_ret
      refine ⟨?_, HK.out⟩
      have hall : xs.all (fun a : ActW => decide (a.path.length ≤ 12)) = true := by
        rw [List.all_eq_true]
        intro x hx
        exact decide_eq_true (HA.out x (by rw [List.take_length]; exact hx))
      have e : R = decide (xs.length ≤ 60) := by
        rw [HF.out, hall]
        rfl
      rw [e]
      show Ending.returned (.bool (decide ((xs.length : Int) ≤ 60))) = _
      congr 2
      rw [decide_eq_decide]
      omega

theorem before_cases (x y : WatT) : (x.session ≠ y.session ∧ decide (ordF x y < 0) = decide (x.session < y.session)) ∨ (x.session = y.session ∧ x.path ≠ y.path ∧ decide (ordF x y < 0) = Op.bytesLess x.path y.path) ∨
    (x.session = y.session ∧ x.path = y.path ∧ x.kids ≠ y.kids ∧ decide (ordF x y < 0) = y.kids) ∨ (x.session = y.session ∧ x.path = y.path ∧ x.kids = y.kids ∧ decide (ordF x y < 0) = (!x.once && y.once)) := by
  obtain ⟨c1, c2, c3, c4, e, h1, h2, h3, h4⟩ := ordF_val x y
  obtain ⟨s1, p1, k1, o1⟩ := x
  obtain ⟨s2, p2, k2, o2⟩ := y
  simp only at *
  by_cases hs : s1 = s2
  · subst hs
    have a1 : c1 = 0 := by rw [h1]; simp [cmpI]
    by_cases hp : p1 = p2
    · subst hp
      have a2 : c2 = 0 := by rw [h2]; simp [cmpS, bl_irr]
      by_cases hk : k1 = k2
      · subst hk
        have a3 : c3 = 0 := by rw [h3]; simp [cmpI]
        refine .inr (.inr (.inr ⟨rfl, rfl, rfl, ?_⟩))
        rw [e, a1, a2, a3, h4]
        cases o1 <;> cases o2 <;> simp [cmpI, oneF]
      · refine .inr (.inr (.inl ⟨rfl, rfl, hk, ?_⟩))
        rw [e, a1, a2, h3]
        cases k1 <;> cases k2 <;> simp [cmpI, oneF] at *
    · refine .inr (.inl ⟨rfl, hp, ?_⟩)
      have v := cmpS_val p1 p2
      rw [← h2] at v
      rw [e, a1]
      rcases v with ⟨h, a⟩ | ⟨h, a⟩ | ⟨h, a⟩
      · rw [a, h]; simp
      · exact absurd h hp
      · rw [a, bl_asym _ _ h]; simp
  · refine .inl ⟨hs, ?_⟩
    have v := cmpI_val s1 s2
    rw [← h1] at v
    rw [e]
    rcases v with ⟨h, a⟩ | ⟨h, a⟩ | ⟨h, a⟩
    · rw [a]; simp [h]
    · exact absurd h hs
    · rw [a]; simp; omega

end Go.Proofs.YtbfogieeiobpdaaGreatDoor
