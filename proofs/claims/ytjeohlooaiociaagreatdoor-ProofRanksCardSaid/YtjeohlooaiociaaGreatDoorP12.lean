/- Plain law of ProofRanks: the ranks are below the number of rounds, and each occurs. -/
import Derived.Test.YtjeohlooaiociaaGreatDoorP8
set_option linter.unusedVariables false
set_option linter.unusedSimpArgs false
namespace Go.Proofs.YtjeohlooaiociaaGreatDoor
open Go Go.RowKit Tj
theorem inI_zero (S : SysD) (n b : Nat) : inI S n b 0 = false := by
 unfold inI
 show (rowD (List.replicate S.deps.length 0) n).testBit b = false
 have e : rowD (List.replicate S.deps.length 0) n = 0 := by
  unfold rowD
  rw [List.getElem?_replicate]
  split <;> rfl
 rw [e, Nat.zero_testBit]
theorem inI_up {S : SysD} (hS : SysOk S) {n b : Nat} : ∀ r, inI S n b r = true → inI S n b (r + 1) = true := fun r h => by
 by_cases hn : n < S.deps.length
 ·exact iter_up hS r n hn b h
 ·have e : rowD (iterD S r) n = 0 := by
   unfold rowD
   rw [List.getElem?_eq_none (by rw [(good_iter hS r).len]; omega)]; rfl
  unfold inI at h
  rw [e, Nat.zero_testBit] at h
  cases h
theorem inI_le {S : SysD} (hS : SysOk S) {n b r : Nat} (h : inI S n b r = true) : ∀ d, inI S n b (r + d) = true
 | 0 => h
 | d + 1 => inI_up hS _ (inI_le hS h d)
theorem mem_inI {S : SysD} {R n : Nat} {x : Int} : x ∈ memD S (iterD S R) n ↔ ∃ b : Nat, x = b ∧ b < S.w ∧ inI S n b R = true := by
 unfold memD
 rw [membersP_mem]
 rfl
/-- the rank of each member is below R -/
theorem ranks_lt {S : SysD} (hS : SysOk S) {R n i : Nat} (hi : i < (memD S (iterD S R) n).length) : rkI S (iterD S R) n i R < R := by
 have hx := List.getElem_mem hi
 obtain ⟨b, e, hb, hin⟩ := mem_inI.1 hx
 unfold rkI
 rw [show (memD S (iterD S R) n).getD i 0 = ((b : Nat) : Int) from by rw [← e]; simp [hi]]
 exact (rk_mem (inI_zero S n b) (inI_up hS) hin).1
/-- each number below R is a rank -/
theorem ranks_all {S : SysD} (hS : SysOk S) {R : Nat} (hF : FixAt S R) {r : Nat} (hr : r < R) : ∃ n, n < S.deps.length ∧ ∃ i, i < (memD S (iterD S R) n).length ∧ rkI S (iterD S R) n i R = r := by
 have h1 : ∃ n, n < S.deps.length ∧ ∃ b, inI S n b (r + 1) = true ∧ inI S n b r = false := Classical.byContradiction fun hno => by
  refine hF.first r hr (LeV.anti (good_iter hS (r + 1)) (good_iter hS r) (fun n hn b hb => ?_) (iter_up hS r))
  cases e : (rowD (iterD S r) n).testBit b with
  | true => rfl
  | false => exact absurd ⟨n, hn, b, hb, e⟩ hno
 obtain ⟨n, hn, b, h2, h3⟩ := h1
 have h4 : inI S n b R = true := by
  have := inI_le hS h2 (R - (r + 1))
  rwa [show r + 1 + (R - (r + 1)) = R from by omega] at this
 have hbw : b < S.w := by
  rcases Nat.lt_or_ge b S.w with h | h
  ·exact h
  ·have hlt : rowD (iterD S R) n < 2 ^ S.w := (good_iter hS R).row n
   unfold inI at h4
   rw [Nat.testBit_lt_two_pow (Nat.lt_of_lt_of_le hlt (Nat.pow_le_pow_right (by decide) h))] at h4
   cases h4
 have h5 : ((b : Nat) : Int) ∈ memD S (iterD S R) n := mem_inI.2 ⟨b, rfl, hbw, h4⟩
 obtain ⟨i, hi, e⟩ := List.mem_iff_getElem.1 h5
 refine ⟨n, hn, i, hi, ?_⟩
 unfold rkI
 rw [show (memD S (iterD S R) n).getD i 0 = ((b : Nat) : Int) from by rw [← e]; simp [hi]]
 exact rk_uniq (inI_zero S n b) (inI_up hS) h4 h2 h3
theorem rounds_le {S : SysD} (hS : SysOk S) {R : Nat} (hF : FixAt S R) : R ≤ S.deps.length * S.w := by
 obtain ⟨R2, h1, h2⟩ := fix_ex hS
 have := hF.eq h1.first h1.fix
 omega
end Go.Proofs.YtjeohlooaiociaaGreatDoor
