/- elimination: unknown and checked; Index, Contains and ContainsFunc of a list of numbers. -/
import Derived.Test.YtfejidihocoboaaE11
import Derived.Test.YtfejidihocoboaaE17
import Derived.Test.YtfejidihocoboaaE18
import Derived.Test.YtfejidihocoboaaTrD
import Derived.Test.YtfejidihocoboaaSetB
import Derived.Test.YtfejidihocoboaaHeld
import Derived.Test.YtfejidihocoboaaTrB
import Derived.Test.YtfejidihocoboaaTrA
import Derived.Test.YtfejidihocoboaaTrC
import Derived.Test.YtfejidihocoboaaFL
import Derived.Test.YtfejidihocoboaaHeldL
import Derived.Deep.LoopGhost
set_option linter.unusedVariables false
set_option linter.unusedSimpArgs false
namespace Go.Proofs.Ytfejidihocoboaa
open Go Go.RowKit
theorem Ints.slice {M : Nat → Prop} {w : World} {sl : Value} {l : List Int} (h : Ints M w .i64 sl l) : ∃ a c, sl = .slice a l.length c := Row.slice h
theorem Ints.len {M : Nat → Prop} {w : World} {sl : Value} {l : List Int} (h : Ints M w .i64 sl l) : l.length ≤ 9223372036854775807 := by
  exact h.2.1
end Go.Proofs.Ytfejidihocoboaa
