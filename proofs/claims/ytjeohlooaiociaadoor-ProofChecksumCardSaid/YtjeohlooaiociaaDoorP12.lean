/- Plain law of ProofRanks: the ranks are below the number of rounds, and each occurs. -/
import Derived.Test.YtjeohlooaiociaaDoorP8
set_option linter.unusedVariables false
set_option linter.unusedSimpArgs false
namespace Go.Proofs.YtjeohlooaiociaaDoor
open Go Go.RowKit Tj
theorem inI_zero (S : SysD) (n b : Nat) : inI S n b 0 = false := by
 unfold inI
 show (rowD (List.replicate S.deps.length 0) n).testBit b = false
 have e : rowD (List.replicate S.deps.length 0) n = 0 := by
  unfold rowD
  rw [List.getElem?_replicate]
  split <;> rfl
 rw [e, Nat.zero_testBit]
theorem inI_up {S : SysD} (hS : SysOk S) {n b : Nat} : ∀ r, inI S n b r = true → inI S n b (r + 1) = true := fun r h => by
 by_cases hn : n < S.deps.length
 ·exact iter_up hS r n hn b h
 ·have e : rowD (iterD S r) n = 0 := by
   unfold rowD
   rw [List.getElem?_eq_none (by rw [(good_iter hS r).len]; omega)]; rfl
  unfold inI at h
  rw [e, Nat.zero_testBit] at h
  cases h
theorem inI_le {S : SysD} (hS : SysOk S) {n b r : Nat} (h : inI S n b r = true) : ∀ d, inI S n b (r + d) = true
 | 0 => h
 | d + 1 => inI_up hS _ (inI_le hS h d)
theorem mem_inI {S : SysD} {R n : Nat} {x : Int} : x ∈ memD S (iterD S R) n ↔ ∃ b : Nat, x = b ∧ b < S.w ∧ inI S n b R = true := by
 unfold memD
 rw [membersP_mem]
 rfl
/-- the rank of each member is below R -/
theorem ranks_lt {S : SysD} (hS : SysOk S) {R n i : Nat} (hi : i < (memD S (iterD S R) n).length) : rkI S (iterD S R) n i R < R := by
 have hx := List.getElem_mem hi
 obtain ⟨b, e, hb, hin⟩ := mem_inI.1 hx
 unfold rkI
 rw [show (memD S (iterD S R) n).getD i 0 = ((b : Nat) : Int) from by rw [← e]; simp [hi]]
 exact (rk_mem (inI_zero S n b) (inI_up hS) hin).1
theorem rounds_le {S : SysD} (hS : SysOk S) {R : Nat} (hF : FixAt S R) : R ≤ S.deps.length * S.w := by
 obtain ⟨R2, h1, h2⟩ := fix_ex hS
 have := hF.eq h1.first h1.fix
 omega
end Go.Proofs.YtjeohlooaiociaaDoor
