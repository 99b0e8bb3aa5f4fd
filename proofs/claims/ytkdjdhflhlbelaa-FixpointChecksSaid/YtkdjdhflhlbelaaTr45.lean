/- Plain laws: a canonical function is known by its values; the star is least; iterating w + 1 times is enough. -/
import Derived.Test.YtkdjdhflhlbelaaTrF
import Derived.Test.YtkdjdhflhlbelaaTrE
set_option linter.unusedVariables false
set_option linter.unusedSimpArgs false
namespace Go.Proofs.Ytkdjdhflhlbelaa
open Go Go.RowKit
theorem applyT_lt {t : TrD} {s : Nat} (ho : TrOk t) (hs : s < 2 ^ t.w) : applyT t s < 2 ^ t.w := applyN_lt ho hs _
end Go.Proofs.Ytkdjdhflhlbelaa
