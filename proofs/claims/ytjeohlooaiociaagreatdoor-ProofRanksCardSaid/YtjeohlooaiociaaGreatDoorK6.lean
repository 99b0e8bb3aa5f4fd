/- Order. -/
import Derived.Test.YtjeohlooaiociaaGreatDoorK1
import Derived.Test.YtjeohlooaiociaaGreatDoorHeldL
import Derived.Test.YtjeohlooaiociaaGreatDoorI8
import Derived.Shelf.Bits.Mul64
import Derived.Laws.CopyOwn
import Derived.Deep.LoopGhost
set_option linter.unusedVariables false
set_option linter.unusedSimpArgs false
namespace Go.Proofs.YtjeohlooaiociaaGreatDoor
open Go Go.RowKit Tj
theorem BlkF.congr {w : World} {b N : Nat} {T : TypeId} {f f' : Nat → Value} (h : BlkF w b T N f) (he : ∀ i, i < N → f i = f' i) : BlkF w b T N f' := by
 unfold BlkF at h ⊢
 rw [← List.map_congr_left (f := f) (g := f') (fun i hi => he i (List.mem_range.1 hi))]
 exact h
end Go.Proofs.YtjeohlooaiociaaGreatDoor
