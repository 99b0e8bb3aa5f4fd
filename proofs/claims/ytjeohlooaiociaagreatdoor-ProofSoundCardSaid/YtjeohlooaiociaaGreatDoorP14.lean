/- What Make gives is accepted; SameProof of the reference. -/
import Derived.Test.YtjeohlooaiociaaGreatDoorP10
import Derived.Test.YtjeohlooaiociaaGreatDoorP13
set_option linter.unusedVariables false
set_option linter.unusedSimpArgs false
namespace Go.Proofs.YtjeohlooaiociaaGreatDoor
open Go Go.RowKit Tj
theorem mk_bit {S : SysD} (hS : SysOk S) {R : Nat} {Rk : LD} (hk : ∀ n, n < S.deps.length → rkD Rk n = natsZ ((List.range (memD S (iterD S R) n).length).map fun i => rkI S (iterD S R) n i R)) {n : Nat} (hn : n < S.deps.length) {b : Nat} (hb : b < S.w) (h : inI S n b R = true) :
  ∃ i, ∃ hi : i < (memD S (iterD S R) n).length, ∃ h2 : i < (rkD Rk n).length, (memD S (iterD S R) n)[i] = (b : Int) ∧ (rkD Rk n)[i] = (rkTo S n b R : Nat) := by
 have h5 : ((b : Nat) : Int) ∈ memD S (iterD S R) n := mem_inI.2 ⟨b, rfl, hb, h⟩
 obtain ⟨i, hi, e⟩ := List.mem_iff_getElem.1 h5
 have h2 : i < (rkD Rk n).length := by rw [hk n hn]; simpa [natsZ] using hi
 refine ⟨i, hi, h2, e, ?_⟩
 have e2 : (rkD Rk n)[i] = ((rkI S (iterD S R) n i R : Nat) : Int) := by
  simp only [hk n hn, natsZ]
  simp
 rw [e2]
 unfold rkI
 rw [show (memD S (iterD S R) n).getD i 0 = ((b : Nat) : Int) from by rw [← e]; simp [hi]]
 rfl
theorem mk_acc {S : SysD} (hS : SysOk S) {R : Nat} (hF : FixAt S R) {Rk : LD} (hl : Rk.length = S.deps.length) (hk : ∀ n, n < S.deps.length → rkD Rk n = natsZ ((List.range (memD S (iterD S R) n).length).map fun i => rkI S (iterD S R) n i R))
  {Lv : LS} (hv : Lv.map Prod.fst = (iterD S R).map (setN S.w)) : AccP S Lv Rk := by
 have hG := good_iter hS R
 have hll : Lv.length = S.deps.length := by have := congrArg List.length hv; simpa [hG.len] using this
 have hR := rounds_le hS hF
 have hRB : R ≤ 65536 := Nat.le_trans hR (Nat.le_trans (Nat.mul_le_mul hS.n2 hS.w) (by decide))
 refine ⟨⟨by rw [hll, hl], fun n h1 h2 => ?_⟩, iterD S R, ⟨hv, hG.len, hG.lt, ?_⟩, fun n hn i hi h2 => ?_⟩
 ·have hn : n < S.deps.length := by omega
  have h3 : n < (iterD S R).length := by rw [hG.len]; exact hn
  have e1 : Lv[n].1 = setN S.w (iterD S R)[n] := by
   have := congrArg (fun l => l[n]?) hv
   simpa [h1, h3] using this
  have e4 : Rk[n].1 = natsZ ((List.range (memD S (iterD S R) n).length).map fun i => rkI S (iterD S R) n i R) := by rw [← hk n hn, rkD_get h2]
  refine ⟨S.w, (iterD S R)[n], hS.w, hG.lt _ (List.getElem_mem h3), e1, ?_, fun k hk2 => ?_⟩
  ·rw [e4]
   unfold memD natsZ
   rw [rowD_get h3]; simp
  ·simp only [e4] at hk2 ⊢
   have hk3 : k < (memD S (iterD S R) n).length := by simpa [natsZ] using hk2
   have := ranks_lt hS hk3
   unfold RkBad natsZ
   simp
   omega
 ·have h3 : nextD S (iterD S R) = iterD S R := hF.fix
  rw [h3]; exact LeV.refl _ _
 ·obtain ⟨b, e, hb, hin⟩ := mem_inI.1 (List.getElem_mem hi)
  obtain ⟨h5, h6, h7⟩ := rk_mem (inI_zero S n b) (inI_up hS) hin
  have e2 : (rkD Rk n)[i] = ((rkTo S n b R : Nat) : Int) := by
   have e3 : (rkD Rk n)[i] = ((rkI S (iterD S R) n i R : Nat) : Int) := by
    simp only [hk n hn, natsZ]
    simp
   rw [e3]
   unfold rkI
   rw [show (memD S (iterD S R) n).getD i 0 = ((b : Nat) : Int) from by rw [← e]; simp [hi]]
   rfl
  rw [e2, e]
  have h8 : rowD (nextTo S (iterD S (rkTo S n b R)) S.deps.length) n = rightD S (iterD S (rkTo S n b R)) n := nextTo_row hn
  have h9 : (rightD S (iterD S (rkTo S n b R)) n).testBit b = true := by rw [← h8]; exact h6
  have hz : ∀ m, m.testBit b = true → hasZ S.w m (b : Int) = true := fun m h => by
   unfold hasZ inB
   simp [h, hb]
  rcases (right_bit _ _ _ _).1 h9 with h | ⟨m, hm, h⟩
  ·exact .inl (hz _ h)
  ·obtain ⟨j, hj, ej⟩ := List.mem_iff_getElem.1 hm
   have hmN := hS.dep hm
   obtain ⟨ho, hw⟩ := hS.tr hmN
   refine .inr ⟨j, hj, ?_⟩
   rw [ej]
   rcases (appT_bit ho (by rw [hw]; exact hb)).1 h with h | ⟨a, ha, hta, hf⟩
   ·exact .inl (hz _ h)
   ·rw [hw] at ha
    have hinR : inI S m a R = true := by
     have := inI_le hS (S := S) (n := m) (b := a) (r := rkTo S n b R) hta (R - rkTo S n b R)
     rwa [show rkTo S n b R + (R - rkTo S n b R) = R from by omega] at this
    obtain ⟨i', hi', h2', e1', e2'⟩ := mk_bit hS hk hmN ha hinR
    refine .inr ⟨i', hi', h2', ?_, ?_⟩
    ·rw [e2']
     have : rkTo S m a R < rkTo S n b R := by
      obtain ⟨g1, g2, g3⟩ := rk_mem (inI_zero S m a) (inI_up hS) hinR
      rcases Nat.lt_or_ge (rkTo S m a R) (rkTo S n b R) with h | h
      ·exact h
      ·have := inI_le hS (S := S) (n := m) (b := a) (r := rkTo S n b R) hta (rkTo S m a R - rkTo S n b R)
       rw [show rkTo S n b R + (rkTo S m a R - rkTo S n b R) = rkTo S m a R from by omega, g3] at this
       cases this
     omega
    ·rw [e1']
     unfold followsX inB
     simp [hw, ha, hb, hf]
end Go.Proofs.YtjeohlooaiociaaGreatDoor
