/- FixpointJoins: the plain law; two lists of sets under way. -/
import Derived.Test.YtjeohlooaiociaaDoorF9
import Derived.Test.YtjeohlooaiociaaDoorHeldL
set_option linter.unusedVariables false
set_option linter.unusedSimpArgs false
namespace Go.Proofs.YtjeohlooaiociaaDoor
open Go Go.RowKit
/-! ### two lists under way -/
def HA (X : Nat) (vB vC : Value) : Nat → Prop := fun b => b ≤ X ∨ vB.ownBlock = some b ∨ vC.ownBlock = some b
end Go.Proofs.YtjeohlooaiociaaDoor
