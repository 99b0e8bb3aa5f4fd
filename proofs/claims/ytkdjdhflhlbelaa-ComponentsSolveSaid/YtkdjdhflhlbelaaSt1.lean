/- What both sides answer for any raw function: a pair of a function and an error. Star. -/
import Derived.Test.YtkdjdhflhlbelaaTrE
import Derived.Test.YtkdjdhflhlbelaaTrB
set_option linter.unusedVariables false
set_option linter.unusedSimpArgs false
namespace Go.Proofs.Ytkdjdhflhlbelaa
open Go Go.RowKit
theorem zero_row {M : Nat → Prop} {w : World} {s : Nat} : Row M w s (.slice none 0 0) 0 [] := ⟨by simp, by omega, none, 0, rfl, by simp, .inl rfl⟩
end Go.Proofs.Ytkdjdhflhlbelaa
