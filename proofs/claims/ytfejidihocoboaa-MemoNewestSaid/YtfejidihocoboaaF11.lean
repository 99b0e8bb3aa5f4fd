/- FixpointJoins: the plain law; two lists of sets under way. -/
import Derived.Test.YtfejidihocoboaaFL
import Derived.Test.YtfejidihocoboaaHeld
import Derived.Test.YtfejidihocoboaaTrD
import Derived.Test.YtfejidihocoboaaTrC
import Derived.Test.YtfejidihocoboaaHeldL
import Derived.Deep.LoopGhost
set_option linter.unusedVariables false
set_option linter.unusedSimpArgs false
namespace Go.Proofs.Ytfejidihocoboaa
open Go Go.RowKit
/-! ### two lists under way -/
def HA (X : Nat) (vB vC : Value) : Nat → Prop := fun b => b ≤ X ∨ vB.ownBlock = some b ∨ vC.ownBlock = some b
end Go.Proofs.Ytfejidihocoboaa
