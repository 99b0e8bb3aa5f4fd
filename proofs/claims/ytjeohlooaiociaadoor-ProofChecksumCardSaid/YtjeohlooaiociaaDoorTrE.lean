/- Merged: Tr26 Can2 Tr27 -/
import Derived.Test.YtjeohlooaiociaaDoorTrD
import Derived.Test.YtjeohlooaiociaaDoorHeld
import Derived.Deep.LoopGhost
set_option linter.unusedVariables false
set_option linter.unusedSimpArgs false
/- Tr26 -/
namespace Go.Proofs.YtjeohlooaiociaaDoor
open Go Go.RowKit
/-! ### the plain law -/
/-! ### the walk -/
theorem SetAt.lo {L n w m : Nat} {M : Nat → Prop} {w7 : World} {sl : Value} (h : SetAt (Lo L) w7 sl w m) (hL : n ≤ L) (hM : ∀ i, M i → i < n) : SetAt M w7 sl w m := h.mono (fun i _ e => Nat.lt_of_lt_of_le (hM i e) hL)
end Go.Proofs.YtjeohlooaiociaaDoor
