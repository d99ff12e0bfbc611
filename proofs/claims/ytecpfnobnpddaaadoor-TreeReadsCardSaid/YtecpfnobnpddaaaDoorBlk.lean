/- Blocks of cells, over any program. No condition. -/
import Derived.Test.YtecpfnobnpddaaaDoorBase
set_option linter.unusedVariables false
namespace Go.Proofs.YtecpfnobnpddaaaDoor
open Go.RowKit

theorem heap_old_ {w : World} {o o' : Obj} {g : Nat} (h : w.heap[g]? = some o') : (w.alloc o).heap[g]? = some o' := (Below.heap_alloc w o g (heap_lt h)).trans h
/-! ### blocks -/
def Blk (w : World) (g : Nat) (e : TypeId) (cs : Array Value) : Prop := w.heap[g]? = some (.cells cs e (0, 0))
theorem Blk.cell {w g e cs} (h : Blk w g e cs) (i : Nat) (v : Value) (hv : cs[i]? = some v) : w.cell? ⟨g, i, none⟩ = some v := (cell_of_row w g i cs e (0, 0) h).trans hv
theorem Blk.fz {w g e cs} (h : Blk w g e cs) (i : Nat) : w.frozen? ⟨g, i, none⟩ = false := by
  unfold Blk at h; simp [World.frozen?, h]
theorem Blk.lt {w g e cs} (h : Blk w g e cs) : g < w.heap.size := heap_lt h
theorem Blk.kept {w w' g e cs} {F : Nat → Prop} (h : Blk w g e cs) (hk : Keeps F w w') (hF : ¬ F g) : Blk w' g e cs := hk.heap h hF
theorem Blk.set {w g e cs} (h : Blk w g e cs) (i : Nat) (v : Value) : Blk (w.setCell ⟨g, i, none⟩ v) g e (cs.setIfInBounds i v) := by
  unfold Blk at h ⊢; simp [World.setCell, Array.getElem?_modify, h]
theorem Blk.new {w : World} {cs : Array Value} {e : TypeId} {g : Nat} (hg : g = w.heap.size) : Blk (w.alloc (.cells cs e)) g e cs := by subst hg; exact heap_alloc_new w _
theorem Blk.alloc {w g e cs} (h : Blk w g e cs) (o : Obj) : Blk (w.alloc o) g e cs := heap_old_ h
theorem Blk.ne_ {w g e cs g' e' cs'} (h : Blk w g e cs) (h' : Blk w g' e' cs') (hne : e ≠ e') : g ≠ g' := by
  rintro rfl
  unfold Blk at h h'
  rw [h] at h'
  injection h' with h'
  injection h' with _ h'
  exact hne h'


end Go.Proofs.YtecpfnobnpddaaaDoor
