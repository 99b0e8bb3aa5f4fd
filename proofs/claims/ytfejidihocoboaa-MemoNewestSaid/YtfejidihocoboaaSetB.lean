/- Merged: Pop Can Set8 Set9 Set10 Set11 Set12 -/
import Derived.Test.YtfejidihocoboaaHeap
import Derived.Test.YtfejidihocoboaaSetA
import Derived.Lib.TrailingZeros
set_option linter.unusedVariables false
set_option linter.unusedSimpArgs false
/- Pop -/
namespace Go.Proofs.Ytfejidihocoboaa
open Go Go.RowKit
def f1 (b : Nat) : Nat := b / 2 &&& 85
def g1 (b : Nat) : Nat := b &&& 85
def f2 (b : Nat) : Nat := b / 4 &&& 51
def g2 (b : Nat) : Nat := b &&& 51
def s1 (b : Nat) : Nat := f1 b + g1 b
def s2 (b : Nat) : Nat := f2 b + g2 b
def s3 (b : Nat) : Nat := b / 16 + b % 16
def popB (b : Nat) : Nat := s3 (s2 (s1 b))
theorem b1 : ∀ b, b < 256 → b &&& 170 = 2 * f1 b ∧ s1 b < 256 ∧ s2 (s1 b) < 256 ∧ s2 (s1 b) / 16 ≤ 4 ∧ s2 (s1 b) % 16 ≤ 4 ∧ (s1 b &&& 204) = 4 * f2 (s1 b) ∧ popB b ≤ 8 ∧ (popB b = 0 → b = 0) := by decide +kernel
def m1 : Nat := 3689348814741910323
def big : Nat := 18446744073709551616
end Go.Proofs.Ytfejidihocoboaa
