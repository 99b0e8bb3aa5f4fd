/- fixpoint: Next, empty, equal, at valid systems. -/
import Derived.Test.YtkdjdhflhlbelaaF3
set_option linter.unusedVariables false
set_option linter.unusedSimpArgs false
namespace Go.Proofs.Ytkdjdhflhlbelaa
open Go Go.RowKit
/-- what the body of an append leaves: only the slice's own block is written -/
theorem own_ext {W wr w' : World} {o : Obj} {v : Value} {base : Nat} (hx : Ext No W wr) (hg : (wr.alloc o).grownBy w' v.ownBlock) (hl : ∀ b, v.ownBlock = some b → base ≤ b) (hb : W.heap.size ≤ base) : Ext No W w' :=
 (hx.trans2 (((Ext.refl (fun k => v.ownBlock = some k) wr).alloc o).grown hg (fun k hk _ => hk)) (fun i hi e => by have := hl i e; omega))
/-! ### empty -/
def zeroSets (n : Nat) : Array Value := madeCells (Value.cells (.agg #[.int .i64 0, .slice none 0 0])) (n * 2)
theorem zeroSets_list (n : Nat) : (zeroSets n).toList = (List.replicate n (zeroS, Value.slice none 0 0)).flatMap kS.cells := by
 refine List.ext_getElem? (fun i => ?_)
 have hl : ((List.replicate n (zeroS, Value.slice none 0 0)).flatMap kS.cells).length = n * 2 := by
  induction n with
  | zero => rfl
  | succ n ih => rw [List.replicate_succ, List.flatMap_cons, List.length_append, ih]; simp [kS]; omega
 by_cases h : i < n * 2
 ·have h1 := flat_get2 kS (List.replicate n (zeroS, Value.slice none 0 0)) (i / 2) (i % 2) (by simp; omega) (Nat.mod_lt _ (by decide))
  rw [show i / 2 * kS.s + i % 2 = i from by show i / 2 * 2 + i % 2 = i; omega] at h1
  rw [h1]
  simp only [zeroSets, madeCells, List.getElem_replicate]
  rcases Nat.mod_two_eq_zero_or_one i with e | e <;> simp [h, e, kS, zeroS, Value.cells]
 ·have h2 : ((List.replicate n (zeroS, Value.slice none 0 0)).flatMap kS.cells)[i]? = none := List.getElem?_eq_none (by rw [hl]; omega)
  rw [h2]
  simp [zeroSets, madeCells, h]
theorem mk_sets (n : Nat) (hn : n ≤ 1000) (w : World) : (Instr.makeSlice 27 (.int .i64 (n : Int)) (.int .i64 (n : Int))).run Try.prog w = .ok (.slice (some ⟨w.heap.size, 0, none⟩) n n) (w.alloc (.cells (zeroSets n) 33)) := by
 obtain ⟨i, hi, hz0, hz1, hz2⟩ := info_parts infoS
 have h := run_makeSlice (P := Try.prog) w 27 33 i _ Try.underlying27 hi hz0 .i64 .i64 n n (by omega) (Int.le_refl _) (by rw [hz1]; simp; omega) (by rw [hz2]; omega) (by omega)
 simp only [Int.toNat_natCast, hz1] at h
 exact h
/-- the empty values, the first k of them laid -/
def partE (n k : Nat) (w : Nat) : List RawSet := List.replicate k (setN w 0) ++ List.replicate (n - k) zeroS
theorem partE_set {n k w : Nat} (hk : k < n) : (partE n k w).set k (setN w 0) = partE n (k + 1) w := by
 unfold partE
 rw [List.set_append, if_neg (by simp), List.length_replicate, Nat.sub_self, show n - k = (n - (k + 1)) + 1 from by omega, List.replicate_succ, List.set_cons_zero, List.replicate_succ', List.append_assoc]
 rfl
/-! ### equal -/
end Go.Proofs.Ytkdjdhflhlbelaa
