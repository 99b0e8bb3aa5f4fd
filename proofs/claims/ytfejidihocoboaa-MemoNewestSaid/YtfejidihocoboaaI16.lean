/- Web of the reference. -/
import Derived.Test.YtfejidihocoboaaFL
import Derived.Test.YtfejidihocoboaaTrD
import Derived.Test.YtfejidihocoboaaSetB
import Derived.Test.YtfejidihocoboaaHeld
import Derived.Test.YtfejidihocoboaaTrB
import Derived.Test.YtfejidihocoboaaTrA
import Derived.Test.YtfejidihocoboaaTrC
import Derived.Test.YtfejidihocoboaaHeldL
import Derived.Test.YtfejidihocoboaaF11
import Derived.Deep.LoopGhost
set_option linter.unusedVariables false
set_option linter.unusedSimpArgs false
namespace Go.Proofs.Ytfejidihocoboaa
open Go Go.RowKit
def HP (P : Nat → Prop) (vB vC : Value) : Nat → Prop := fun b => P b ∨ vB.ownBlock = some b ∨ vC.ownBlock = some b
end Go.Proofs.Ytfejidihocoboaa
