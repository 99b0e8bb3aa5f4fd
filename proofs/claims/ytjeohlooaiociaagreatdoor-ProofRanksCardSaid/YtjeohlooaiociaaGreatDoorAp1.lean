/- Merged: St1 Ap1 -/
import Derived.Test.YtjeohlooaiociaaGreatDoorHeld2
import Derived.Test.YtjeohlooaiociaaGreatDoorTrB
import Derived.Test.YtjeohlooaiociaaGreatDoorTrD
import Derived.Test.YtjeohlooaiociaaGreatDoorSetB
import Derived.Test.YtjeohlooaiociaaGreatDoorTr6
import Derived.Test.YtjeohlooaiociaaGreatDoorTrC
set_option linter.unusedVariables false
set_option linter.unusedSimpArgs false
/- St1 -/
namespace Go.Proofs.YtjeohlooaiociaaGreatDoor
open Go Go.RowKit
theorem zero_row {M : Nat → Prop} {w : World} {s : Nat} : Row M w s (.slice none 0 0) 0 [] := ⟨by simp, by omega, none, 0, rfl, by simp, .inl rfl⟩
end Go.Proofs.YtjeohlooaiociaaGreatDoor

/- Ap1 -/
namespace Go.Proofs.YtjeohlooaiociaaGreatDoor
open Go Go.RowKit
def zeroS : RawSet := ⟨0, []⟩
end Go.Proofs.YtjeohlooaiociaaGreatDoor
