/-
  Small words: cells of new blocks.
-/
import Derived.Test.YtkbmenpggiojeaaKa
namespace Go.Proofs.Ytkbmenpggiojeaa
open Go.RowKit
set_option linter.unusedSimpArgs false
set_option linter.unusedVariables false

theorem new_cell (W : World) (T : TypeId) (cs : List Value) (g i : Nat) (hg : g = W.heap.size) : (W.alloc (.cells cs.toArray T)).cell? ⟨g, i, none⟩ = cs[i]? := by
  subst hg
  rw [cell_of_row _ _ i cs.toArray T (0, 0) (heap_alloc_new W _)]; simp
theorem alloc_cell (W : World) (o : Obj) (g i : Nat) (h : g < W.heap.size) : (W.alloc o).cell? ⟨g, i, none⟩ = W.cell? ⟨g, i, none⟩ := World.cell?_alloc_lt W o ⟨g, i, none⟩ h
theorem old_cell {w W : World} (hb : Below w.heap.size w W) {g i : Nat} {v : Value} (h : w.cell? ⟨g, i, none⟩ = some v) (hg : g < w.heap.size) : W.cell? ⟨g, i, none⟩ = some v := (hb.cell (p := ⟨g, i, none⟩) hg).trans h
end Go.Proofs.Ytkbmenpggiojeaa
