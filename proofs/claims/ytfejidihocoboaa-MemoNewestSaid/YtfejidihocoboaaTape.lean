/- The tape of choices: what flqgen.New and Next leave. -/
import Derived.Test.YtfejidihocoboaaHeap
import Derived.Test.YtfejidihocoboaaProg
import Derived.Deep.QuietTactic
import Derived.BigQuiet
import Derived.WalkSpells
import Derived.IntWalk
set_option linter.unusedVariables false
set_option linter.unusedSimpArgs false
namespace Go.Proofs.Ytfejidihocoboaa
open Go Go.RowKit
/-- a slice of integers that came in -/
def Ints (M : Nat → Prop) (w : World) (k : IntKind) (sl : Value) (zs : List Int) : Prop := Row M w 1 sl zs.length (zs.map (.int k))
end Go.Proofs.Ytfejidihocoboaa
