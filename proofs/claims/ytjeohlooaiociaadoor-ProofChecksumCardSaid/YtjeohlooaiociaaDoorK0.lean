/- Rows of a call's own, by functions; the state of the search in memory. -/
import Derived.Test.YtjeohlooaiociaaDoorTj
import Derived.Test.YtjeohlooaiociaaDoorF3
import Derived.Test.YtjeohlooaiociaaDoorI0
set_option linter.unusedVariables false
set_option linter.unusedSimpArgs false
namespace Go.Proofs.YtjeohlooaiociaaDoor
open Go Go.RowKit Tj
/-- a block of N cells, given by a function -/
def BlkF (w : World) (b : Nat) (T : TypeId) (N : Nat) (f : Nat → Value) : Prop := w.heap[b]? = some (.cells ((List.range N).map f).toArray T (0, 0))
section
variable {w w' : World} {b N : Nat} {T : TypeId} {f : Nat → Value}
theorem BlkF.cell (h : BlkF w b T N f) {i : Nat} (hi : i < N) : w.cell? ⟨b, i, none⟩ = some (f i) := by
 rw [cellOf h]
 simp [hi]
theorem BlkF.free (h : BlkF w b T N f) (j : Nat) : w.frozen? ⟨b, j, none⟩ = false := freeOf h j
theorem BlkF.ext {M : Nat → Prop} (h : BlkF w b T N f) (hx : Ext M w w') (hn : ¬ M b) : BlkF w' b T N f := hx.blk h hn
theorem map_upd (f : Nat → Value) (i : Nat) (v : Value) (N : Nat) : ((List.range N).map f).set i v = (List.range N).map (upd f i v) := by
 refine List.ext_getElem (by simp) (fun j h1 h2 => ?_)
 rw [List.getElem_set]
 simp only [List.getElem_map, List.getElem_range, upd]
 by_cases e : i = j
 ·rw [if_pos e, if_pos e.symm]
 ·rw [if_neg e, if_neg (fun e2 => e e2.symm)]
theorem BlkF.set (h : BlkF w b T N f) (i : Nat) (v : Value) : BlkF (w.setCell ⟨b, i, none⟩ v) b T N (upd f i v) := by
 have h1 := set_same (j := i) (u := v) h
 rw [List.setIfInBounds_toArray, map_upd] at h1
 exact h1
end
end Go.Proofs.YtjeohlooaiociaaDoor
