/- Merged: St1 Ap1 -/
import Derived.Test.YtjeohlooaiociaaDoorTrE
import Derived.Test.YtjeohlooaiociaaDoorTrB
import Derived.Test.YtjeohlooaiociaaDoorTrD
import Derived.Test.YtjeohlooaiociaaDoorSetB
import Derived.Test.YtjeohlooaiociaaDoorTr6
import Derived.Test.YtjeohlooaiociaaDoorHeld2
import Derived.Test.YtjeohlooaiociaaDoorTrC
set_option linter.unusedVariables false
set_option linter.unusedSimpArgs false
/- St1 -/
namespace Go.Proofs.YtjeohlooaiociaaDoor
open Go Go.RowKit
theorem zero_row {M : Nat → Prop} {w : World} {s : Nat} : Row M w s (.slice none 0 0) 0 [] := ⟨by simp, by omega, none, 0, rfl, by simp, .inl rfl⟩
end Go.Proofs.YtjeohlooaiociaaDoor

/- Ap1 -/
namespace Go.Proofs.YtjeohlooaiociaaDoor
open Go Go.RowKit
def zeroS : RawSet := ⟨0, []⟩
end Go.Proofs.YtjeohlooaiociaaDoor
