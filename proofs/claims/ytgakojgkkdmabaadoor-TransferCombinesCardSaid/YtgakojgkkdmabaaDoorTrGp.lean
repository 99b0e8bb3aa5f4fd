/- Plain laws of canonical functions, stars, joins and compositions. -/
import Derived.Test.YtgakojgkkdmabaaDoorTrF
import Derived.Test.YtgakojgkkdmabaaDoorTr28
set_option linter.unusedVariables false
set_option linter.unusedSimpArgs false
namespace Go.Proofs.YtgakojgkkdmabaaDoor
open Go Go.RowKit
def updTo (rs : List Nat) (f : Nat → Nat) (k : Nat) : List Nat := (List.range rs.length).map fun i => if i < k then f i else rowAt rs i
theorem updTo_len (rs : List Nat) (f : Nat → Nat) (k : Nat) : (updTo rs f k).length = rs.length := by simp [updTo]
theorem updTo_zero (rs : List Nat) (f : Nat → Nat) : updTo rs f 0 = rs := by
 refine List.ext_getElem (updTo_len rs f 0) (fun i h1 h2 => ?_)
 simp [updTo, rowAt, h2]
theorem updTo_get {rs : List Nat} {f : Nat → Nat} {k i : Nat} (h : i < (updTo rs f k).length) : (updTo rs f k)[i] = if i < k then f i else rowAt rs i := by simp [updTo]
theorem updTo_succ {rs : List Nat} {f : Nat → Nat} {k : Nat} (_ : k < rs.length) : updTo rs f (k + 1) = (updTo rs f k).set k (f k) := by
 refine List.ext_getElem (by simp [updTo]) (fun i h1 h2 => ?_)
 rw [updTo_get, List.getElem_set]
 by_cases e : k = i
 ·subst e; simp
 ·rw [if_neg e, updTo_get]
  by_cases h : i < k
  ·rw [if_pos h, if_pos (by omega)]
  ·rw [if_neg h, if_neg (by omega)]
theorem updTo_at (rs : List Nat) (f : Nat → Nat) (k : Nat) (h : k < rs.length) (h2 : k < (updTo rs f k).length) : (updTo rs f k)[k] = rs[k] := by
 rw [updTo_get, if_neg (Nat.lt_irrefl _), rowAt_get h]
def joinRows (r1 r2 : List Nat) : List Nat := updTo r1 (fun i => orN (rowAt r1 i) (rowAt r2 i)) r1.length
def compRows (w : Nat) (r1 r2 : List Nat) : List Nat := updTo r1 (fun i => imgN r2 w (rowAt r1 i)) r1.length
theorem apply_bit {t : TrD} (ho : TrOk t) {s b : Nat} (hs : s < 2 ^ t.w) : (applyT t s).testBit b = true ↔ t.gen.testBit b = true ∨ ∃ a, a < t.w ∧ s.testBit a = true ∧ (rowAt (rowsN t t.w t.copies.length) a).testBit b = true := by
 rw [apply_rows ho hs]
 unfold orN
 rw [Nat.testBit_or, Bool.or_eq_true, imgN_bit]
 rfl
theorem updTo_at2 {rs : List Nat} {f : Nat → Nat} {a : Nat} (h : a < rs.length) : rowAt (updTo rs f rs.length) a = f a := by
 rw [rowAt_get (by rw [updTo_len]; exact h), updTo_get, if_pos h]
theorem subN_iff {a b : Nat} : subN a b = true ↔ ∀ i, a.testBit i = true → b.testBit i = true := by
 unfold subN
 rw [decide_eq_true_eq]
 constructor
 ·intro h i hi
  have := congrArg (fun n => n.testBit i) h
  simp only [diffN_bit, Nat.zero_testBit, hi, Bool.true_and] at this
  simpa using this
 ·intro h
  refine Nat.eq_of_testBit_eq fun i => ?_
  rw [diffN_bit, Nat.zero_testBit]
  cases e : a.testBit i
  ·rfl
  ·rw [h i e]; rfl
def compT (t u : TrD) : TrD := closeT t.w (applyT u t.gen) (compRows t.w (rowsN t t.w t.copies.length) (rowsN u t.w u.copies.length))
def joinT (t u : TrD) : TrD := closeT t.w (orN t.gen u.gen) (joinRows (rowsN t t.w t.copies.length) (rowsN u t.w u.copies.length))
def canonT (t : TrD) : TrD := closeT t.w t.gen (rowsN t t.w t.copies.length)
end Go.Proofs.YtgakojgkkdmabaaDoor
