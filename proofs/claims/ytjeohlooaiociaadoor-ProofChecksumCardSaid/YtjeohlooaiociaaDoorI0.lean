/- Rising of the reference. -/
import Derived.Test.YtjeohlooaiociaaDoorF2
import Derived.Test.YtjeohlooaiociaaDoorTrD
import Derived.Test.YtjeohlooaiociaaDoorSetB
import Derived.Test.YtjeohlooaiociaaDoorTrE
import Derived.Test.YtjeohlooaiociaaDoorTrB
import Derived.Test.YtjeohlooaiociaaDoorTr6
import Derived.Test.YtjeohlooaiociaaDoorHeld2
import Derived.Test.YtjeohlooaiociaaDoorTrC
set_option linter.unusedVariables false
set_option linter.unusedSimpArgs false
namespace Go.Proofs.YtjeohlooaiociaaDoor
open Go Go.RowKit
theorem tells_f {p : Prop} {b : Bool} (h : b = true ↔ p) (hp : ¬ p) : b = false := by
 cases b with
 | true => exact absurd (h.1 rfl) hp
 | false => rfl
end Go.Proofs.YtjeohlooaiociaaDoor
