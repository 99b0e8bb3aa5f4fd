/- Merged: Tr20 Sets Tr21 Tr22 Sets2 Tr23 -/
import Derived.Test.YtfejidihocoboaaSetB
import Derived.Test.YtfejidihocoboaaTrC
set_option linter.unusedVariables false
set_option linter.unusedSimpArgs false
/- Tr22 -/
namespace Go.Proofs.Ytfejidihocoboaa
open Go Go.RowKit
section
variable {n T C : Nat} {w w' : World}
theorem Ext.setAt {C : Nat} {a w : World} (h : Ext (At C) a w) (j : Nat) (x : Value) : Ext (At C) a (w.setCell ⟨C, j, none⟩ x) := h.setCell (p := ⟨C, j, none⟩) (fun _ => rfl) _
end
end Go.Proofs.Ytfejidihocoboaa
/- Sets2 -/
namespace Go.Proofs.Ytfejidihocoboaa
open Go Go.RowKit
theorem row_keep {M : Nat → Prop} {wx wy : World} {B : Nat} {e : TypeId} {size n : Nat} {v : Value} {xs : List Value} (h : wx.ownsRow B e size v n xs) (hx : Ext M wx wy) (hM : ∀ i, B ≤ i → ¬ M i) : wy.ownsRow B e size v n xs := by
  obtain ⟨h1, h2⟩ := h
  refine ⟨h1, ?_⟩
  rcases h2 with h2 | ⟨g, cap, cur, hv, hb, hg, hr⟩
  · exact .inl h2
  · exact .inr ⟨g, cap, cur, hv, hb, (hx.block g (lt_of_block hg) (hM g hb)).trans hg, hr⟩
theorem row_keep2 {M : Nat → Prop} {wx wy : World} {B : Nat} {e : TypeId} {size n : Nat} {v : Value} {xs : List Value} (h : wx.ownsRow B e size v n xs) (hx : Ext M wx wy) (hM : ∀ k, v.ownBlock = some k → ¬ M k) : wy.ownsRow B e size v n xs := by
  obtain ⟨h1, h2⟩ := h
  refine ⟨h1, ?_⟩
  rcases h2 with h2 | ⟨g, cap, cur, hv, hb, hg, hr⟩
  · exact .inl h2
  · exact .inr ⟨g, cap, cur, hv, hb, (hx.block g (lt_of_block hg) (hM g (by rw [hv]; rfl))).trans hg, hr⟩
theorem row_base {w : World} {B B' : Nat} {e : TypeId} {size n : Nat} {v : Value} {xs : List Value} (h : w.ownsRow B e size v n xs) (hB : B' ≤ B) : w.ownsRow B' e size v n xs := by
  obtain ⟨h1, h2⟩ := h
  refine ⟨h1, ?_⟩
  rcases h2 with h2 | ⟨g, cap, cur, hv, hb, hr⟩
  · exact .inl h2
  · exact .inr ⟨g, cap, cur, hv, Nat.le_trans hB hb, hr⟩
end Go.Proofs.Ytfejidihocoboaa
