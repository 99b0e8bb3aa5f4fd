/- FixpointJoins: the plain law; two lists of sets under way. -/
import Derived.Test.YtjeohlooaiociaaGreatDoorF9
import Derived.Test.YtjeohlooaiociaaGreatDoorHeldL
set_option linter.unusedVariables false
set_option linter.unusedSimpArgs false
namespace Go.Proofs.YtjeohlooaiociaaGreatDoor
open Go Go.RowKit
/-! ### two lists under way -/
def HA (X : Nat) (vB vC : Value) : Nat → Prop := fun b => b ≤ X ∨ vB.ownBlock = some b ∨ vC.ownBlock = some b
end Go.Proofs.YtjeohlooaiociaaGreatDoor
