/- Merged: SetB TrD -/
import Derived.Test.YtfejidihocoboaaHeap
import Derived.Test.YtfejidihocoboaaSetA
import Derived.Lib.TrailingZeros
import Derived.Test.YtfejidihocoboaaTrC
set_option linter.unusedVariables false
set_option linter.unusedSimpArgs false
/- SetB -/
namespace Go.Proofs.Ytfejidihocoboaa
open Go Go.RowKit
def f1 (b : Nat) : Nat := b / 2 &&& 85
def g1 (b : Nat) : Nat := b &&& 85
def f2 (b : Nat) : Nat := b / 4 &&& 51
def g2 (b : Nat) : Nat := b &&& 51
def s1 (b : Nat) : Nat := f1 b + g1 b
def s2 (b : Nat) : Nat := f2 b + g2 b
def s3 (b : Nat) : Nat := b / 16 + b % 16
def popB (b : Nat) : Nat := s3 (s2 (s1 b))
theorem b1 : ∀ b, b < 256 → b &&& 170 = 2 * f1 b ∧ s1 b < 256 ∧ s2 (s1 b) < 256 ∧ s2 (s1 b) / 16 ≤ 4 ∧ s2 (s1 b) % 16 ≤ 4 ∧ (s1 b &&& 204) = 4 * f2 (s1 b) ∧ popB b ≤ 8 ∧ (popB b = 0 → b = 0) := by decide +kernel
def m1 : Nat := 3689348814741910323
def m2 : Nat := 1085102592571150095
def big : Nat := 18446744073709551616
end Go.Proofs.Ytfejidihocoboaa
/- Can -/
namespace Go.Proofs.Ytfejidihocoboaa
open Go Go.RowKit
theorem bit_high {m w b : Nat} (h : m < 2 ^ w) (hb : w ≤ b) : m.testBit b = false := Nat.testBit_lt_two_pow (Nat.lt_of_lt_of_le h (Nat.pow_le_pow_right (by decide) hb))
/-! ### members in ascending order -/
end Go.Proofs.Ytfejidihocoboaa

/- TrD -/
namespace Go.Proofs.Ytfejidihocoboaa
open Go Go.RowKit
/-- a box of n cells, whatever it holds -/
def BoxR (n : Nat) (T : TypeId) (C : Nat) (w : World) : Prop := ∃ cs : Array Value, cs.size = n ∧ w.heap[C]? = some (.cells cs T (0, 0))
section
variable {n T C : Nat} {w w' : World}
theorem BoxR.ext (h : BoxR n T C w) (hx : Ext No w w') : BoxR n T C w' := by obtain ⟨cs, h1, h⟩ := h; exact ⟨cs, h1, hx.blk h no_no⟩
theorem BoxR.drew (h : BoxR n T C w) : BoxR n T C w.drew := h
theorem BoxR.alloc (h : BoxR n T C w) (o : Obj) : BoxR n T C (w.alloc o) := h.ext ((Ext.refl _ _).alloc _)
theorem BoxR.set (h : BoxR n T C w) (j : Nat) (x : Value) : BoxR n T C (w.setCell ⟨C, j, none⟩ x) := by obtain ⟨cs, h1, h⟩ := h; exact ⟨_, by simp [h1], set_same h⟩
theorem BoxR.free (h : BoxR n T C w) : ∀ j, w.frozen? ⟨C, j, none⟩ = false := by obtain ⟨cs, h1, h⟩ := h; exact freeOf h
theorem BoxR.lt (h : BoxR n T C w) : C < w.heap.size := by obtain ⟨cs, h1, h⟩ := h; exact lt_of_block h
theorem Ext.setAt {C : Nat} {a w : World} (h : Ext (At C) a w) (j : Nat) (x : Value) : Ext (At C) a (w.setCell ⟨C, j, none⟩ x) := h.setCell (p := ⟨C, j, none⟩) (fun _ => rfl) _
end
end Go.Proofs.Ytfejidihocoboaa
/- Sets2 -/
namespace Go.Proofs.Ytfejidihocoboaa
open Go Go.RowKit
theorem row_keep {M : Nat → Prop} {wx wy : World} {B : Nat} {e : TypeId} {size n : Nat} {v : Value} {xs : List Value} (h : wx.ownsRow B e size v n xs) (hx : Ext M wx wy) (hM : ∀ i, B ≤ i → ¬ M i) : wy.ownsRow B e size v n xs := by
  obtain ⟨h1, h2⟩ := h
  refine ⟨h1, ?_⟩
  rcases h2 with h2 | ⟨g, cap, cur, hv, hb, hg, hr⟩
  · exact .inl h2
  · exact .inr ⟨g, cap, cur, hv, hb, (hx.block g (lt_of_block hg) (hM g hb)).trans hg, hr⟩
theorem row_keep2 {M : Nat → Prop} {wx wy : World} {B : Nat} {e : TypeId} {size n : Nat} {v : Value} {xs : List Value} (h : wx.ownsRow B e size v n xs) (hx : Ext M wx wy) (hM : ∀ k, v.ownBlock = some k → ¬ M k) : wy.ownsRow B e size v n xs := by
  obtain ⟨h1, h2⟩ := h
  refine ⟨h1, ?_⟩
  rcases h2 with h2 | ⟨g, cap, cur, hv, hb, hg, hr⟩
  · exact .inl h2
  · exact .inr ⟨g, cap, cur, hv, hb, (hx.block g (lt_of_block hg) (hM g (by rw [hv]; rfl))).trans hg, hr⟩
theorem row_base {w : World} {B B' : Nat} {e : TypeId} {size n : Nat} {v : Value} {xs : List Value} (h : w.ownsRow B e size v n xs) (hB : B' ≤ B) : w.ownsRow B' e size v n xs := by
  obtain ⟨h1, h2⟩ := h
  refine ⟨h1, ?_⟩
  rcases h2 with h2 | ⟨g, cap, cur, hv, hb, hr⟩
  · exact .inl h2
  · exact .inr ⟨g, cap, cur, hv, Nat.le_trans hB hb, hr⟩
end Go.Proofs.Ytfejidihocoboaa
