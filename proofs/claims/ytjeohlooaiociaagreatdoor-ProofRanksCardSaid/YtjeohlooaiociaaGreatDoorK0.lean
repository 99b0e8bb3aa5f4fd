/- Merged: Tj K0 -/
import Derived.Test.YtjeohlooaiociaaGreatDoorFS
import Derived.Test.YtjeohlooaiociaaGreatDoorF2
import Derived.Test.YtjeohlooaiociaaGreatDoorTrD
import Derived.Test.YtjeohlooaiociaaGreatDoorSetB
import Derived.Test.YtjeohlooaiociaaGreatDoorHeld2
import Derived.Test.YtjeohlooaiociaaGreatDoorTrB
import Derived.Test.YtjeohlooaiociaaGreatDoorTr6
import Derived.Test.YtjeohlooaiociaaGreatDoorTrC
import Derived.Test.YtjeohlooaiociaaGreatDoorF3
set_option linter.unusedVariables false
set_option linter.unusedSimpArgs false
/- Tj -/
namespace Go.Proofs.YtjeohlooaiociaaGreatDoor.Tj
def upd {α : Type} (f : Nat → α) (n : Nat) (v : α) : Nat → α := fun i => if i = n then v else f i
structure TS where
 idx : Nat → Nat
 low : Nat → Nat
 out : Nat → Int
 path : List Nat
 cnt : Nat
def start (s : TS) (n : Nat) : TS := { s with idx := upd s.idx n (s.cnt + 1), low := upd s.low n (s.cnt + 1), path := s.path ++ [n], cnt := s.cnt + 1 }
end Go.Proofs.YtjeohlooaiociaaGreatDoor.Tj

/- K0 -/
namespace Go.Proofs.YtjeohlooaiociaaGreatDoor
open Go Go.RowKit
theorem tells_f {p : Prop} {b : Bool} (h : b = true ↔ p) (hp : ¬ p) : b = false := by
 cases b with
 | true => exact absurd (h.1 rfl) hp
 | false => rfl
end Go.Proofs.YtjeohlooaiociaaGreatDoor

/- K0 -/
namespace Go.Proofs.YtjeohlooaiociaaGreatDoor
open Go Go.RowKit Tj
/-- a block of N cells, given by a function -/
def BlkF (w : World) (b : Nat) (T : TypeId) (N : Nat) (f : Nat → Value) : Prop := w.heap[b]? = some (.cells ((List.range N).map f).toArray T (0, 0))
section
variable {w w' : World} {b N : Nat} {T : TypeId} {f : Nat → Value}
theorem BlkF.cell (h : BlkF w b T N f) {i : Nat} (hi : i < N) : w.cell? ⟨b, i, none⟩ = some (f i) := by
 rw [cellOf h]
 simp [hi]
theorem BlkF.free (h : BlkF w b T N f) (j : Nat) : w.frozen? ⟨b, j, none⟩ = false := freeOf h j
theorem BlkF.ext {M : Nat → Prop} (h : BlkF w b T N f) (hx : Ext M w w') (hn : ¬ M b) : BlkF w' b T N f := hx.blk h hn
theorem map_upd (f : Nat → Value) (i : Nat) (v : Value) (N : Nat) : ((List.range N).map f).set i v = (List.range N).map (upd f i v) := by
 refine List.ext_getElem (by simp) (fun j h1 h2 => ?_)
 rw [List.getElem_set]
 simp only [List.getElem_map, List.getElem_range, upd]
 by_cases e : i = j
 ·rw [if_pos e, if_pos e.symm]
 ·rw [if_neg e, if_neg (fun e2 => e e2.symm)]
theorem BlkF.set (h : BlkF w b T N f) (i : Nat) (v : Value) : BlkF (w.setCell ⟨b, i, none⟩ v) b T N (upd f i v) := by
 have h1 := set_same (j := i) (u := v) h
 rw [List.setIfInBounds_toArray, map_upd] at h1
 exact h1
end
end Go.Proofs.YtjeohlooaiociaaGreatDoor
