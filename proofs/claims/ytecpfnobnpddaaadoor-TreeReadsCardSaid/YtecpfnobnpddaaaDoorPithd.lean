/- Contracts of the package pith, fourth part: the writers, called with a list that was just made. No condition. -/
import Derived.Test.YtecpfnobnpddaaaDoorPithc
set_option linter.unusedVariables false
namespace Go.Proofs.YtecpfnobnpddaaaDoor
open Go.RowKit

theorem Grew.from_ {w CW w' : World} {v v' : Value} (h : Grew CW v w' v') (k : Keeps (fun _ => False) w CW) : Grew w v w' v' :=
  ⟨(k.mono (fun _ _ e => e.elim)).trans' h.keeps, fun g hg => (h.new g hg).imp id (fun e => Nat.le_trans k.size e)⟩
theorem off_new {w : World} {e : TypeId} {size : Nat} {v : Value} {n : Nat} {xs : List Value} (h : Row w e size v n xs) {g : Nat} (hg : w.heap.size ≤ g) : Off (fun k => v.ownBlock = some k) (some ⟨g, 0, none⟩) := by
  intro ad he hv
  cases he
  have := h.lt hv
  simp only at this
  omega

theorem heap_new {w : World} {o : Obj} {g : Nat} (hg : g = w.heap.size) : (w.alloc o).heap[g]? = some o := by subst hg; exact heap_alloc_new w o
theorem heap_old {w : World} {o o' : Obj} {g : Nat} (h : w.heap[g]? = some o') : (w.alloc o).heap[g]? = some o' := (Below.heap_alloc w o g (heap_lt h)).trans h

/-- a row of bytes, known whole -/
def RowB (w : World) (v : Value) (l : List UInt8) : Prop := Row w 5 1 v l.length (Bs l)
theorem RowB.of {w : World} {v : Value} {n : Nat} {l : List UInt8} (h : Row w 5 1 v n (Bs l)) : RowB w v l := by
  have := h.len
  simp only [Bs_length, Nat.mul_one] at this
  subst this
  exact h
theorem RowB.nil (w : World) : RowB w (.slice none 0 0) [] := Row.nil _ _ _
theorem RowB.kept {w w' : World} {v : Value} {l : List UInt8} {F : Nat → Prop} (h : RowB w v l) (hk : Keeps F w w') (hF : ∀ g, v.ownBlock = some g → ¬ F g) : RowB w' v l := Row.kept h hk hF
theorem RowB.lt {w : World} {v : Value} {l : List UInt8} (h : RowB w v l) {g : Nat} (hg : v.ownBlock = some g) : g < w.heap.size := Row.lt h hg
/-- its block is no block of another make -/
theorem RowB.ne_ {w : World} {v : Value} {l : List UInt8} (h : RowB w v l) {g : Nat} {o : Obj} (ho : w.heap[g]? = some o) (hne : ∀ cur, o ≠ .cells cur 5 (0, 0)) : v.ownBlock ≠ some g := Row.ne_ h ho hne
theorem RowB.form {w : World} {v : Value} {l : List UInt8} (h : RowB w v l) : ∃ A cap, v = .slice A l.length cap ∧ l.length ≤ cap ∧ cap ≤ maxLen ∧ Src w 1 A l.length (Bs l) := by
  obtain ⟨A, cap, h1, h2, h3, h4, _⟩ := Row.form h
  exact ⟨A, cap, h1, h2, h3, h4⟩

/-- what a writer leaves: from the base w, called in CW -/
structure Wrote (w CW : World) (v : Value) (w' : World) (v' : Value) (l : List UInt8) : Prop where
  row : RowB w' v' l
  grew : Grew w v w' v'
  keeps : Keeps (fun k => v.ownBlock = some k) CW w'

theorem num_new (w CW : World) (v : Value) (l : List UInt8) (hown : RowB w v l) (hk : Keeps (fun _ => False) w CW) (g : Nat) (hg : w.heap.size ≤ g) (ns : List Int) (m : Nat) (hm : ns.length = m)
    (hb : CW.heap[g]? = some (.cells (Is ns).toArray 3 (0, 0))) (hl : l.length ≤ 100000000) (hm2 : m ≤ 1000) :
    Calls Tryd.prog 52 #[v, .slice (some ⟨g, 0, none⟩) m m] CW fun e w' => ∃ v', e = .returned v' ∧ Wrote w CW v w' v' (l ++ nums ns) := by
  subst hm
  refine (num_any CW v _ l (Row.kept hown hk (fun _ _ h => h)) _ ns _ (Src.block hb 1 ns.length (by simp)) (off_new hown hg) (by omega)).mono ?_
  rintro e w' ⟨v', rfl, h1, h2⟩
  exact ⟨v', rfl, .of h1, h2.from_ hk, h2.keeps⟩
theorem text_new (w CW : World) (v : Value) (l : List UInt8) (hown : RowB w v l) (hk : Keeps (fun _ => False) w CW) (g : Nat) (hg : w.heap.size ≤ g) (ss : List (List UInt8)) (m : Nat) (hm : ss.length = m)
    (hb : CW.heap[g]? = some (.cells (Ss ss).toArray 9 (0, 0))) (hl : l.length ≤ 100000000) (hm2 : m ≤ 1000) :
    Calls Tryd.prog 54 #[v, .slice (some ⟨g, 0, none⟩) m m] CW fun e w' => ∃ v', e = .returned v' ∧ Wrote w CW v w' v' (l ++ txts ss) := by
  subst hm
  refine (text_any CW v _ l (Row.kept hown hk (fun _ _ h => h)) _ ss _ (Src.block hb 1 ss.length (by simp)) (off_new hown hg) (by omega)).mono ?_
  rintro e w' ⟨v', rfl, h1, h2⟩
  exact ⟨v', rfl, .of h1, h2.from_ hk, h2.keeps⟩
theorem flag_new (w CW : World) (v : Value) (l : List UInt8) (hown : RowB w v l) (hk : Keeps (fun _ => False) w CW) (g : Nat) (hg : w.heap.size ≤ g) (fs : List Bool) (m : Nat) (hm : fs.length = m)
    (hb : CW.heap[g]? = some (.cells (Fs fs).toArray 4 (0, 0))) (hl : l.length ≤ 100000000) (hm2 : m ≤ 1000) :
    Calls Tryd.prog 53 #[v, .slice (some ⟨g, 0, none⟩) m m] CW fun e w' => ∃ v', e = .returned v' ∧ Wrote w CW v w' v' (l ++ flags fs) := by
  subst hm
  refine (flag_any CW v _ l (Row.kept hown hk (fun _ _ h => h)) _ fs _ (Src.block hb 1 fs.length (by simp)) (off_new hown hg) (by omega)).mono ?_
  rintro e w' ⟨v', rfl, h1, h2⟩
  exact ⟨v', rfl, .of h1, h2.from_ hk, h2.keeps⟩

/-- the same, in the very world, wherever the list lies -/
theorem flag_at (w : World) (v : Value) (l : List UInt8) (hown : RowB w v l) (g : Nat) (fs : List Bool) (m : Nat) (hm : fs.length = m)
    (hb : w.heap[g]? = some (.cells (Fs fs).toArray 4 (0, 0))) (hl : l.length ≤ 100000000) (hm2 : m ≤ 1000) :
    Calls Tryd.prog 53 #[v, .slice (some ⟨g, 0, none⟩) m m] w fun e w' => ∃ v', e = .returned v' ∧ RowB w' v' (l ++ flags fs) ∧ Grew w v w' v' := by
  subst hm
  refine (flag_any w v _ l hown _ fs _ (Src.block hb 1 fs.length (by simp)) (fun ad he hv => ?_) (by omega)).mono ?_
  · cases he
    exact hown.ne_ hb (fun cur e => by injection e with _ e; exact absurd e (by decide)) hv
  · rintro e w' ⟨v', rfl, h1, h2⟩
    exact ⟨v', rfl, .of h1, h2⟩

end Go.Proofs.YtecpfnobnpddaaaDoor
