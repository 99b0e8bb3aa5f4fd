/- Apply of both sides at any raw function and set. -/
import Derived.Test.YtkdjdhflhlbelaaSt1
import Derived.Test.YtkdjdhflhlbelaaTrD
import Derived.Test.YtkdjdhflhlbelaaSetB
import Derived.Test.YtkdjdhflhlbelaaTrE
import Derived.Test.YtkdjdhflhlbelaaTrB
import Derived.Test.YtkdjdhflhlbelaaTr6
import Derived.Test.YtkdjdhflhlbelaaHeld2
import Derived.Test.YtkdjdhflhlbelaaTrC
set_option linter.unusedVariables false
set_option linter.unusedSimpArgs false
namespace Go.Proofs.Ytkdjdhflhlbelaa
open Go Go.RowKit
/-- the pair of the set q and the error e0 -/
def ResS (M : Nat → Prop) (q : RawSet) (e0 : Int) (W : World) (e : Ending) (w' : World) : Prop :=
 ∃ a c, e = .returned (.tuple #[.agg #[.int .i64 q.width, .slice a q.words.length c], .int .i64 e0]) ∧ Hid (WordsAt M w' (.slice a q.words.length c) q.words) ∧ Ext No W w'
def zeroS : RawSet := ⟨0, []⟩
theorem SetEPost.res {M : Nat → Prop} {w m : Nat} {W w' : World} {e : Ending} (h : SetEPost M w m W e w') : ResS M (setN w m) 0 W e w' := by
 obtain ⟨a, c, rfl, h1, hx⟩ := h
 have e1 : (setN w m).words.length = nw w := wordsN_len ..
 refine ⟨a, c, ?_, Lib.hid ?_, hx⟩
 ·rw [e1]; rfl
 ·rw [e1]; exact h1.out.words
end Go.Proofs.Ytkdjdhflhlbelaa
