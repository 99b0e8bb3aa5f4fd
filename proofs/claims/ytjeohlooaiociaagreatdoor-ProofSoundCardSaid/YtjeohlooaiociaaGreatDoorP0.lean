/- Plain laws of ranks: the rank of a member is the round before it enters. -/
import Derived.Test.YtjeohlooaiociaaGreatDoorFS
set_option linter.unusedVariables false
set_option linter.unusedSimpArgs false
namespace Go.Proofs.YtjeohlooaiociaaGreatDoor
open Go Go.RowKit
def inI (S : SysD) (n b r : Nat) : Bool := (rowD (iterD S r) n).testBit b
/-- the rank after r rounds -/
def rkTo (S : SysD) (n b : Nat) : Nat → Nat
 | 0 => 0
 | r + 1 => if inI S n b (r + 1) = true then rkTo S n b r else r + 1
theorem rkTo_spec {S : SysD} {n b : Nat} (h0 : inI S n b 0 = false) (hm : ∀ r, inI S n b r = true → inI S n b (r + 1) = true) : ∀ r, rkTo S n b r ≤ r ∧ (∀ j, j ≤ rkTo S n b r → inI S n b j = false) ∧ (rkTo S n b r < r → inI S n b (rkTo S n b r + 1) = true)
 | 0 => ⟨Nat.le_refl _, fun j hj => by
   have : j = 0 := Nat.le_zero.1 hj
   rw [this]; exact h0, fun h => absurd h (Nat.not_lt_zero _)⟩
 | r + 1 => by
  obtain ⟨h1, h2, h3⟩ := rkTo_spec h0 hm r
  by_cases e : inI S n b (r + 1) = true
  ·rw [rkTo, if_pos e]
   refine ⟨by omega, h2, fun _ => ?_⟩
   by_cases h4 : rkTo S n b r < r
   ·exact h3 h4
   ·rw [show rkTo S n b r = r from by omega]; exact e
  ·rw [rkTo, if_neg e]
   refine ⟨Nat.le_refl _, fun j hj => ?_, fun h => absurd h (Nat.lt_irrefl _)⟩
   cases ej : inI S n b j with
   | false => rfl
   | true =>
    have up : ∀ d, inI S n b (j + d) = true := fun d => by
     induction d with
     | zero => exact ej
     | succ d ih => exact hm _ ih
    have := up (r + 1 - j)
    rw [show j + (r + 1 - j) = r + 1 from by omega] at this
    exact absurd this e
/-- the rank of a member of the solution -/
theorem rk_mem {S : SysD} {n b R : Nat} (h0 : inI S n b 0 = false) (hm : ∀ r, inI S n b r = true → inI S n b (r + 1) = true) (h : inI S n b R = true) :
  rkTo S n b R < R ∧ inI S n b (rkTo S n b R + 1) = true ∧ inI S n b (rkTo S n b R) = false := by
 obtain ⟨h1, h2, h3⟩ := rkTo_spec h0 hm R
 have h4 : rkTo S n b R < R := by
  rcases Nat.lt_or_ge (rkTo S n b R) R with h4 | h4
  ·exact h4
  ·have := h2 R h4
   rw [this] at h; cases h
 exact ⟨h4, h3 h4, h2 _ (Nat.le_refl _)⟩
theorem rk_uniq {S : SysD} {n b R k : Nat} (h0 : inI S n b 0 = false) (hm : ∀ r, inI S n b r = true → inI S n b (r + 1) = true) (h : inI S n b R = true) (h1 : inI S n b (k + 1) = true) (h2 : inI S n b k = false) : rkTo S n b R = k := by
 obtain ⟨-, g1, g2⟩ := rk_mem h0 hm h
 have up : ∀ i d, inI S n b i = true → inI S n b (i + d) = true := fun i d hi => by
  induction d with
  | zero => exact hi
  | succ d ih => exact hm _ ih
 rcases Nat.lt_trichotomy (rkTo S n b R) k with e | e | e
 ·have := up _ (k - (rkTo S n b R + 1)) g1
  rw [show rkTo S n b R + 1 + (k - (rkTo S n b R + 1)) = k from by omega, h2] at this
  cases this
 ·exact e
 ·have := up _ (rkTo S n b R - (k + 1)) h1
  rw [show k + 1 + (rkTo S n b R - (k + 1)) = rkTo S n b R from by omega, g2] at this
  cases this
end Go.Proofs.YtjeohlooaiociaaGreatDoor
