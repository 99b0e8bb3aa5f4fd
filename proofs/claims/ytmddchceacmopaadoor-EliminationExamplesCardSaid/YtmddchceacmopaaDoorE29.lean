
import Derived.Test.YtmddchceacmopaaDoorE25
set_option linter.unusedVariables false
set_option linter.unusedSimpArgs false
namespace Go.Proofs.YtmddchceacmopaaDoor
open Go Go.RowKit
theorem MW.stepLow {w w' : World} {base lim : Nat} {vb vi : Value} {LB : LS} {RL : RLs} {S : WebD} {M : Nat → Prop} (h : MW w base lim vb vi LB RL S) (hx : Ext M w w') (hM : ∀ i, i < w.heap.size → M i → i < base) : MW w' base lim vb vi LB RL S := ⟨h.x.stepLow hx hM, h.ok, h.bnd, h.len, h.rows⟩
theorem MW.top {w : World} {base lim : Nat} {vb vi : Value} {LB : LS} {RL : RLs} {S : WebD} (h : MW w base lim vb vi LB RL S) : MW w base w.heap.size vb vi LB RL S := ⟨h.x.lift h.x.lh (Nat.le_refl _), h.ok, h.bnd, h.len, h.rows⟩
