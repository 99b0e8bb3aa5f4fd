/- FixpointJoins: the plain law; two lists of sets under way. -/
import Derived.Test.YtkdjdhflhlbelaaF10
import Derived.Test.YtkdjdhflhlbelaaHeldL
set_option linter.unusedVariables false
set_option linter.unusedSimpArgs false
namespace Go.Proofs.Ytkdjdhflhlbelaa
open Go Go.RowKit
/-! ### two lists under way -/
def HA (X : Nat) (vB vC : Value) : Nat → Prop := fun b => b ≤ X ∨ vB.ownBlock = some b ∨ vC.ownBlock = some b
section
variable {wr w' : World} {X : Nat} {vB vC v' : Value} {LB LC : LS} {p : RawSet × Value}
theorem HA_swap {X : Nat} {vB vC : Value} {b : Nat} (h : HA X vB vC b) : HA X vC vB b := by
  rcases h with e | e | e
  · exact .inl e
  · exact .inr (.inr e)
  · exact .inr (.inl e)
end
end Go.Proofs.Ytkdjdhflhlbelaa
