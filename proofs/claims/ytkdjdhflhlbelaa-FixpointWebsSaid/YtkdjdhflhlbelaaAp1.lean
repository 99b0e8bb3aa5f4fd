/- Apply of both sides at any raw function and set. -/
import Derived.Test.YtkdjdhflhlbelaaSt1
import Derived.Test.YtkdjdhflhlbelaaTrD
import Derived.Test.YtkdjdhflhlbelaaSetB
import Derived.Test.YtkdjdhflhlbelaaHeld
import Derived.Test.YtkdjdhflhlbelaaTrB
import Derived.Test.YtkdjdhflhlbelaaTr6
import Derived.Test.YtkdjdhflhlbelaaHeld2
import Derived.Test.YtkdjdhflhlbelaaTrC
import Derived.Deep.LoopGhost
set_option linter.unusedVariables false
set_option linter.unusedSimpArgs false
namespace Go.Proofs.Ytkdjdhflhlbelaa
open Go Go.RowKit
def zeroS : RawSet := ⟨0, []⟩
end Go.Proofs.Ytkdjdhflhlbelaa
