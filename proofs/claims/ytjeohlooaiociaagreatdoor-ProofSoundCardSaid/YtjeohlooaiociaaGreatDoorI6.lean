/- Merged: I2 I6 -/
import Derived.Test.YtjeohlooaiociaaGreatDoorK1
import Derived.Test.YtjeohlooaiociaaGreatDoorTrC
import Derived.Test.YtjeohlooaiociaaGreatDoorHeld
import Derived.Test.YtjeohlooaiociaaGreatDoorF4
import Derived.Test.YtjeohlooaiociaaGreatDoorRefA
import Derived.Test.YtjeohlooaiociaaGreatDoorFL
import Derived.Test.YtjeohlooaiociaaGreatDoorFS
import Derived.Test.YtjeohlooaiociaaGreatDoorTrF
set_option linter.unusedVariables false
set_option linter.unusedSimpArgs false
/- I2 -/
namespace Go.Proofs.YtjeohlooaiociaaGreatDoor
open Go Go.RowKit
/-- the error of a list of values: 1 invalid, 2 another width -/
def valE (x : Int) (n : Nat) (l : LS) : Int := if l.length = n ∧ (∀ p ∈ l, validB p.1 = true) then (if ∀ p ∈ l, p.1.width = x then 0 else 2) else 1
theorem valE_len {x : Int} {n : Nat} {l : LS} (h : l.length ≠ n) : valE x n l = 1 := by unfold valE; rw [if_neg (fun e => h e.1)]
theorem valE_inv {x : Int} {n : Nat} {l : LS} {p : RawSet × Value} (h : p ∈ l) (hv : validB p.1 = false) : valE x n l = 1 := by unfold valE; rw [if_neg (fun e => by have := e.2 p h; rw [hv] at this; cases this)]
theorem valE_ok {x : Int} {n : Nat} {l : LS} (hl : l.length = n) (hv : ∀ p ∈ l, validB p.1 = true) (hw : ∀ p ∈ l, p.1.width = x) : valE x n l = 0 := by unfold valE; rw [if_pos ⟨hl, hv⟩, if_pos hw]
theorem valE_zero {x : Int} {n : Nat} {l : LS} (h : valE x n l = 0) : l.length = n ∧ ∀ p ∈ l, FitS x p.1 := by
 unfold valE at h
 split at h
 ·rename_i h1
  split at h
  ·rename_i h2
   exact ⟨h1.1, fun p hp => ⟨h1.2 p hp, h2 p hp⟩⟩
  ·cases h
 ·cases h
theorem valE_one {x : Int} {n : Nat} {l : LS} (h : valE x n l = 1) : ¬ (l.length = n ∧ ∀ p ∈ l, validB p.1 = true) := fun e => by
 unfold valE at h
 rw [if_pos e] at h
 split at h
 ·cases h
 ·cases h
theorem valE_cases (x : Int) (n : Nat) (l : LS) : valE x n l = 0 ∨ valE x n l = 1 ∨ valE x n l = 2 := by
 unfold valE
 split
 ·split
  ·exact .inl rfl
  ·exact .inr (.inr rfl)
 ·exact .inr (.inl rfl)
end Go.Proofs.YtjeohlooaiociaaGreatDoor

/- I6 -/
namespace Go.Proofs.YtjeohlooaiociaaGreatDoor
open Go Go.RowKit
theorem SetAt.early {L m D : Nat} {w7 : World} {sl u0 u1 : Value} (h : SetAt (Lo L) w7 sl 2 m) (hlt : D < L) : SetAt No ((w7.setCell ⟨D, 0, none⟩ u0).setCell ⟨D, 1, none⟩ u1) sl 2 m :=
 (h.ext (ext_two (W := w7) (w1 := w7) (Ext.refl _ _) D) (fun i _ e => by cases e; exact hlt)).no
end Go.Proofs.YtjeohlooaiociaaGreatDoor

/- I4 -/
namespace Go.Proofs.YtjeohlooaiociaaGreatDoor
open Go Go.RowKit
/-- an answer with an error and a zero value -/
def ErrPost (z : Value) (E : Int) (W : World) (e : Ending) (w' : World) : Prop := e = .returned (.tuple #[z, .int .i64 E]) ∧ Ext No W w'
def zeroSv : Value := .agg #[.int .i64 0, .slice none 0 0]
end Go.Proofs.YtjeohlooaiociaaGreatDoor

/- I6 -/
namespace Go.Proofs.YtjeohlooaiociaaGreatDoor
open Go Go.RowKit
section
variable {S : SysD} {vs nx : List Nat} {n k i : Nat}
theorem sub_of_le {a b : Nat} (h : LeB a b) : subN a b = true := decide_eq_true (Nat.eq_of_testBit_eq fun j => by
 rw [diffN_bit, Nat.zero_testBit]
 cases e : a.testBit j with
 | false => rfl
 | true => rw [h j e]; rfl)
end
end Go.Proofs.YtjeohlooaiociaaGreatDoor

/- I6 -/
namespace Go.Proofs.YtjeohlooaiociaaGreatDoor
open Go Go.RowKit
theorem infoI6m : (Tryz.prog.info? 3).map (fun i => (i.zero, i.size, i.bytes)) = some (some (.int .i64 0), 1, 8) := by kernel_rfl
def rmT (m k : Nat) : List Int := ((List.range k).filter (fun b => m.testBit b)).map fun (b : Nat) => (b : Int)
theorem rmT_len (m : Nat) : ∀ k, (rmT m k).length ≤ k := fun k => by
 unfold rmT
 rw [List.length_map]
 exact Nat.le_trans (List.length_filter_le _ _) (by simp)
theorem rmT_snoc (m k : Nat) : rmT m (k + 1) = rmT m k ++ (if m.testBit k = true then [(k : Int)] else []) := by
 unfold rmT
 rw [List.range_succ, List.filter_append, List.map_append]
 by_cases h : m.testBit k = true
 ·simp [h]
 ·simp [h]
end Go.Proofs.YtjeohlooaiociaaGreatDoor
