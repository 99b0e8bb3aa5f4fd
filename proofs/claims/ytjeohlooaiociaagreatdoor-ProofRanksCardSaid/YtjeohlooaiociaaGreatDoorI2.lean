/- values of the reference. -/
import Derived.Test.YtjeohlooaiociaaGreatDoorK0
set_option linter.unusedVariables false
set_option linter.unusedSimpArgs false
namespace Go.Proofs.YtjeohlooaiociaaGreatDoor
open Go Go.RowKit
/-- the error of a list of values: 1 invalid, 2 another width -/
def valE (x : Int) (n : Nat) (l : LS) : Int := if l.length = n ∧ (∀ p ∈ l, validB p.1 = true) then (if ∀ p ∈ l, p.1.width = x then 0 else 2) else 1
theorem valE_len {x : Int} {n : Nat} {l : LS} (h : l.length ≠ n) : valE x n l = 1 := by unfold valE; rw [if_neg (fun e => h e.1)]
theorem valE_inv {x : Int} {n : Nat} {l : LS} {p : RawSet × Value} (h : p ∈ l) (hv : validB p.1 = false) : valE x n l = 1 := by unfold valE; rw [if_neg (fun e => by have := e.2 p h; rw [hv] at this; cases this)]
theorem valE_ok {x : Int} {n : Nat} {l : LS} (hl : l.length = n) (hv : ∀ p ∈ l, validB p.1 = true) (hw : ∀ p ∈ l, p.1.width = x) : valE x n l = 0 := by unfold valE; rw [if_pos ⟨hl, hv⟩, if_pos hw]
theorem valE_zero {x : Int} {n : Nat} {l : LS} (h : valE x n l = 0) : l.length = n ∧ ∀ p ∈ l, FitS x p.1 := by
 unfold valE at h
 split at h
 ·rename_i h1
  split at h
  ·rename_i h2
   exact ⟨h1.1, fun p hp => ⟨h1.2 p hp, h2 p hp⟩⟩
  ·cases h
 ·cases h
theorem valE_one {x : Int} {n : Nat} {l : LS} (h : valE x n l = 1) : ¬ (l.length = n ∧ ∀ p ∈ l, validB p.1 = true) := fun e => by
 unfold valE at h
 rw [if_pos e] at h
 split at h
 ·cases h
 ·cases h
theorem valE_cases (x : Int) (n : Nat) (l : LS) : valE x n l = 0 ∨ valE x n l = 1 ∨ valE x n l = 2 := by
 unfold valE
 split
 ·split
  ·exact .inl rfl
  ·exact .inr (.inr rfl)
 ·exact .inr (.inl rfl)
end Go.Proofs.YtjeohlooaiociaaGreatDoor
