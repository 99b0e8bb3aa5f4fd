/- Merged: P12 P13 -/
import Derived.Test.YtjeohlooaiociaaGreatDoorP8
set_option linter.unusedVariables false
set_option linter.unusedSimpArgs false
/- P12 -/
namespace Go.Proofs.YtjeohlooaiociaaGreatDoor
open Go Go.RowKit Tj
theorem inI_zero (S : SysD) (n b : Nat) : inI S n b 0 = false := by
 unfold inI
 show (rowD (List.replicate S.deps.length 0) n).testBit b = false
 have e : rowD (List.replicate S.deps.length 0) n = 0 := by
  unfold rowD
  rw [List.getElem?_replicate]
  split <;> rfl
 rw [e, Nat.zero_testBit]
theorem inI_up {S : SysD} (hS : SysOk S) {n b : Nat} : ∀ r, inI S n b r = true → inI S n b (r + 1) = true := fun r h => by
 by_cases hn : n < S.deps.length
 ·exact iter_up hS r n hn b h
 ·have e : rowD (iterD S r) n = 0 := by
   unfold rowD
   rw [List.getElem?_eq_none (by rw [(good_iter hS r).len]; omega)]; rfl
  unfold inI at h
  rw [e, Nat.zero_testBit] at h
  cases h
theorem inI_le {S : SysD} (hS : SysOk S) {n b r : Nat} (h : inI S n b r = true) : ∀ d, inI S n b (r + d) = true
 | 0 => h
 | d + 1 => inI_up hS _ (inI_le hS h d)
theorem mem_inI {S : SysD} {R n : Nat} {x : Int} : x ∈ memD S (iterD S R) n ↔ ∃ b : Nat, x = b ∧ b < S.w ∧ inI S n b R = true := by
 unfold memD
 rw [membersP_mem]
 rfl
/-- the rank of each member is below R -/
theorem ranks_lt {S : SysD} (hS : SysOk S) {R n i : Nat} (hi : i < (memD S (iterD S R) n).length) : rkI S (iterD S R) n i R < R := by
 have hx := List.getElem_mem hi
 obtain ⟨b, e, hb, hin⟩ := mem_inI.1 hx
 unfold rkI
 rw [show (memD S (iterD S R) n).getD i 0 = ((b : Nat) : Int) from by rw [← e]; simp [hi]]
 exact (rk_mem (inI_zero S n b) (inI_up hS) hin).1
theorem rounds_le {S : SysD} (hS : SysOk S) {R : Nat} (hF : FixAt S R) : R ≤ S.deps.length * S.w := by
 obtain ⟨R2, h1, h2⟩ := fix_ex hS
 have := hF.eq h1.first h1.fix
 omega
end Go.Proofs.YtjeohlooaiociaaGreatDoor

/- P13 -/
namespace Go.Proofs.YtjeohlooaiociaaGreatDoor
open Go Go.RowKit Tj
theorem ranked_facts {S : SysD} {Lv : LS} {R : LD} {vs : List Nat} (h : AboveL S Lv vs) (k : RankedP Lv R) {n : Nat} (hn : n < S.deps.length) : (rkD R n).length = (memD S vs n).length ∧ ∀ i (hi : i < (rkD R n).length), ¬ RkBad (rkD R n)[i] := by
 have hll : Lv.length = vs.length := by have := congrArg List.length h.1; simpa using this
 have h1 : n < Lv.length := by rw [hll, h.2.1]; exact hn
 have h2 : n < R.length := by rw [← k.1]; exact h1
 have h3 : n < vs.length := by rw [h.2.1]; exact hn
 obtain ⟨w, m, hw', hm, he, hl, hb⟩ := k.2 n h1 h2
 have e1 : Lv[n].1 = setN S.w vs[n] := by
  have := congrArg (fun l => l[n]?) h.1
  simpa [h1, h3] using this
 obtain ⟨e2, e3⟩ := setN_inj2 hm (h.2.2.1 _ (List.getElem_mem h3)) (he.symm.trans e1)
 subst e2
 have e4 : rkD R n = R[n].1 := rkD_get h2
 refine ⟨by rw [e4, hl]; unfold memD; rw [rowD_get h3, ← e3], fun i hi => ?_⟩
 simp only [e4] at hi ⊢
 exact hb i hi
theorem acc_bit {S : SysD} (hS : SysOk S) {R : Nat} (hF : FixAt S R) {Lv : LS} {Rk : LD} {vs : List Nat} (hA : AboveL S Lv vs) (hR : RankedP Lv Rk) (hD : ∀ n, n < S.deps.length → DerP S vs Rk n) :
  ∀ k : Nat, ∀ n, n < S.deps.length → ∀ i (hi : i < (memD S vs n).length) (h2 : i < (rkD Rk n).length), (rkD Rk n)[i] < (k : Int) → ∃ b : Nat, (memD S vs n)[i] = (b : Int) ∧ b < S.w ∧ inI S n b R = true
 | 0, n, hn, i, hi, h2, hlt => by
  have := (ranked_facts hA hR hn).2 i h2
  unfold RkBad at this
  omega
 | k + 1, n, hn, i, hi, h2, hlt => by
  obtain ⟨b, e, hb, _⟩ := membersP_mem.1 (List.getElem_mem hi)
  refine ⟨b, e, hb, ?_⟩
  have hc := hD n hn i hi h2
  have er : rowD (iterD S R) n = rightD S (iterD S R) n := by
   have h3 : iterD S (R + 1) = iterD S R := hF.fix
   have h4 : iterD S (R + 1) = nextTo S (iterD S R) S.deps.length := rfl
   have h5 : rowD (nextTo S (iterD S R) S.deps.length) n = rightD S (iterD S R) n := nextTo_row hn
   rw [← h4, h3] at h5
   exact h5
  unfold inI
  rw [er, right_bit]
  have hz : ∀ m, hasZ S.w m (memD S vs n)[i] = true → m.testBit b = true := fun m h => by
   rw [e] at h
   unfold hasZ at h
   simp only [Bool.and_eq_true] at h
   simpa using h.2
  rcases hc with h | ⟨j, hj, h⟩
  ·exact .inl (hz _ h)
  ·have hmd := List.getElem_mem hj
   have hmN := hS.dep hmd
   obtain ⟨ho, hw⟩ := hS.tr hmN
   refine .inr ⟨_, hmd, (appT_bit ho (by rw [hw]; exact hb)).2 ?_⟩
   rcases h with h | ⟨i', hi', h2', hlt', hfo⟩
   ·exact .inl (hz _ h)
   ·obtain ⟨a, ea, ha, hin⟩ := acc_bit hS hF hA hR hD k _ hmN i' hi' h2' (by omega)
    rw [ea, e] at hfo
    unfold followsX at hfo
    simp only [Bool.and_eq_true] at hfo
    exact .inr ⟨a, by rw [hw]; exact ha, hin, hfo.2.2⟩
theorem acc_least {S : SysD} (hS : SysOk S) {R : Nat} (hF : FixAt S R) {Lv : LS} {Rk : LD} {vs : List Nat} (hA : AboveL S Lv vs) (hR : RankedP Lv Rk) (hD : ∀ n, n < S.deps.length → DerP S vs Rk n) : vs = iterD S R := by
 refine LeV.anti ⟨hA.2.1, hA.2.2.1⟩ (good_iter hS R) (fun n hn b hb => ?_) (iter_least hS hA.2.2.2 R)
 have hbw : b < S.w := by
  rcases Nat.lt_or_ge b S.w with h | h
  ·exact h
  ·have h3 : n < vs.length := by rw [hA.2.1]; exact hn
   have hlt : rowD vs n < 2 ^ S.w := by rw [rowD_get h3]; exact hA.2.2.1 _ (List.getElem_mem h3)
   rw [Nat.testBit_lt_two_pow (Nat.lt_of_lt_of_le hlt (Nat.pow_le_pow_right (by decide) h))] at hb
   cases hb
 have h5 : ((b : Nat) : Int) ∈ memD S vs n := membersP_mem.2 ⟨b, rfl, hbw, hb⟩
 obtain ⟨i, hi, e⟩ := List.mem_iff_getElem.1 h5
 obtain ⟨hl, hp⟩ := ranked_facts hA hR hn
 have h2 : i < (rkD Rk n).length := by rw [hl]; exact hi
 obtain ⟨b', e', _, hin⟩ := acc_bit hS hF hA hR hD ((rkD Rk n)[i].toNat + 1) n hn i hi h2 (by have := hp i h2; unfold RkBad at this; omega)
 have : b' = b := by rw [e] at e'; omega
 rw [this] at hin
 exact hin
end Go.Proofs.YtjeohlooaiociaaGreatDoor
