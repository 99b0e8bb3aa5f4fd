
import Derived.Test.YtjeohlooaiociaaGreatDoorP26
set_option linter.unusedVariables false
set_option linter.unusedSimpArgs false
namespace Go.Proofs.YtjeohlooaiociaaGreatDoor
open Go Go.RowKit
theorem rankV_mem {S : SysD} {vs : List Nat} {R : LD} {n : Nat} {x z : Int} (h : RankV S vs R n x z) : x ∈ memD S vs n := by
 obtain ⟨i, hi, _, e, _⟩ := h
 rw [← e]; exact List.getElem_mem hi
theorem rankV_uniq {S : SysD} {vs : List Nat} {R : LD} {n : Nat} {x z z' : Int} (h : RankV S vs R n x z) (k : RankV S vs R n x z') : z = z' := by
 obtain ⟨i, hi, h2, e1, e2⟩ := h
 obtain ⟨j, hj, k2, f1, f2⟩ := k
 obtain rfl : i = j := memD_inj hi hj (e1.trans f1.symm)
 rw [e2, f2]
set_option maxRecDepth 100000 in
set_option maxHeartbeats 8000000 in
theorem rderived_any (S : SysD) (vd vt vb vv vr : Value) (vs : List Nat) (R : LD) (n : Nat) (x y : Int) (W : World) (h : SysAt No W vd vt vb S) (hp : PrfAt No W S vv vr vs R) (hm : n < S.deps.length) (hrv : RankV S vs R n x y) :
  Calls Tryz.prog 55 #[.agg #[.int .i64 (S.w : Int), vd, vt, vb], .agg #[vv, vr], .int .i64 (n : Int), .int .i64 x] W (Tells (CauseP S vs R n x y) W) := by
 have H := Lib.hid h
 have HOK := Lib.hid h.ok
 have hnn := h.ok.n2
 have hww := h.ok.w
 obtain ⟨ad, cd, at1, ct, ab, cb, rfl, rfl, rfl⟩ := h.slices
 have HRV := Lib.hid hrv
 obtain ⟨av, cv, rfl⟩ := hp.vals.slice
 obtain ⟨ar, cr, rfl⟩ := hp.rk.slice
 have HL1 := Lib.hid hp.l1
 have HL2 := Lib.hid hp.l2
 have HP := Lib.hid hp
 rw [hp.l1, hp.l2] at HP ⊢
 have hmz : (n : Int) < (S.deps.length : Int) := by omega
 clear h hp hrv
 go_enter Tryz.func55, Tryz.ntmps55
 go_upto_region 1 with (fail)
 have hx0 : Ext No W ((W.alloc (.cells #[.int .i64 (S.w : Int), .slice ad S.deps.length cd, .slice at1 S.deps.length ct, .slice ab S.deps.length cb] 27)).alloc (.cells #[.slice av S.deps.length cv, .slice ar S.deps.length cr] 29)) := ((Ext.refl _ _).alloc _).alloc _
 have HA := Lib.hid (show ((W.alloc (.cells #[.int .i64 (S.w : Int), .slice ad S.deps.length cd, .slice at1 S.deps.length ct, .slice ab S.deps.length cb] 27)).alloc (.cells #[.slice av S.deps.length cv, .slice ar S.deps.length cr] 29)).heap[W.heap.size]? = some (.cells #[.int .i64 (S.w : Int), .slice ad S.deps.length cd, .slice at1 S.deps.length ct, .slice ab S.deps.length cb] 27 (0, 0)) from alloc_under (alloc_top rfl))
 have HB := Lib.hid (show ((W.alloc (.cells #[.int .i64 (S.w : Int), .slice ad S.deps.length cd, .slice at1 S.deps.length ct, .slice ab S.deps.length cb] 27)).alloc (.cells #[.slice av S.deps.length cv, .slice ar S.deps.length cr] 29)).heap[W.heap.size + 1]? = some (.cells #[.slice av S.deps.length cv, .slice ar S.deps.length cr] 29 (0, 0)) from alloc_top (by simp))
 generalize ((W.alloc (.cells #[.int .i64 (S.w : Int), .slice ad S.deps.length cd, .slice at1 S.deps.length ct, .slice ab S.deps.length cb] 27)).alloc (.cells #[.slice av S.deps.length cv, .slice ar S.deps.length cr] 29)) = V at *
 generalize W.heap.size = A at *
 have HX := Lib.hid hx0
 clear hx0
 have cA := cellOf HA.out
 go_wp2_with fail
 clear cA
 refine (rorigin_any S _ _ _ n x V (H.out.extNo HX.out) hm).mono ?_
 rintro e1 w1 ⟨bo, rfl, hbo, hx1⟩
 have HBO := Lib.hid hbo
 have HX1 := Lib.hid (HX.out.transNo hx1)
 have HA1 := Lib.hid (hx1.blk HA.out no_no)
 have HB1 := Lib.hid (hx1.blk HB.out no_no)
 clear hbo hx1 HX HA HB
 cases bo with
 | true =>
  go_wp2_with fail
  go_ret
  exact ⟨true, rfl, ⟨fun _ => by
   rcases HBO.out.1 (by simp) with h | ⟨j, hj, h⟩
   ·exact .inl h
   exact .inr ⟨j, hj, .inl h⟩, fun _ => rfl⟩, HX1.out⟩
 | false =>
  have HNO := Lib.hid (show ¬ OrigP S n x from fun h => by have := HBO.out.2 h; simp at this)
  clear HBO
  obtain ⟨bd, od, kd, adn, cdn, hde, d0, hds⟩ := (H.out.extNo HX1.out).dep hm
  simp only [Value.slice.injEq] at hde
  obtain ⟨rfl, -, rfl⟩ := hde
  have hdl : (depD S n).length ≤ 1024 := dep_len HOK.out n
  obtain ⟨dl, hdle⟩ : ∃ dl, dl = depD S n := ⟨_, rfl⟩
  rw [← hdle] at d0 hds hdl
  have HDL := Lib.hid hdle
  have HD0 := Lib.hid d0
  have HDS := Lib.hid hds.out
  clear d0 hds hdle
  go_wp2_with fail
  go_loopw [9, 10, 11, 12] (fun q _ _ _ wr => ∃ k : Nat, k ≤ dl.length ∧ q = .int .i64 k ∧ Hid (Ext No w1 wr) ∧ Hid (∀ j (h : j < dl.length), j < k → ¬ EarlP S vs R dl[j] x y)) (fun q _ _ _ _ => dl.length - (intOf q).toNat)
  case atStart => exact ⟨0, Nat.zero_le _, rfl, Lib.hid (Ext.refl _ _), Lib.hid (fun _ _ hj => absurd hj (Nat.not_lt_zero _))⟩
  obtain ⟨k, hk, rfl, hx, hall⟩ := hrel
  rename World => wr
  have HXR := Lib.hid (HX1.out.transNo hx.out)
  have cA := cellOf (hx.out.blk HA1.out no_no)
  have cB := cellOf (hx.out.blk HB1.out no_no)
  have d0 := hx.out.keep HD0.out
  by_cases hlt : k < dl.length
  ·have hlz : (k : Int) < (dl.length : Int) := by omega
   have HKK : Hid (Value.int .i64 ((k : Int) + 1) = .int .i64 ((k + 1 : Nat) : Int)) := Lib.hid (by rw [show ((k + 1 : Nat) : Int) = (k : Int) + 1 from by omega])
   obtain ⟨bi, oi, ki, hie, -, -, hci⟩ := IntsP.at (show Ints No wr .i64 (.slice adn dl.length cdn) (natsZ dl) from Row.extNo HDS.out hx.out) hlt
   simp only [Value.slice.injEq] at hie
   obtain ⟨rfl, -, rfl⟩ := hie
   have q1 := hci k hlt
   have hmem : dl[k] ∈ depD S n := by rw [← HDL.out]; exact List.getElem_mem hlt
   have hmN := HOK.out.dep hmem
   obtain ⟨m, hme⟩ : ∃ m, m = dl[k] := ⟨_, rfl⟩
   rw [← hme] at q1 hmN
   have HME := Lib.hid hme
   have hmNz : (m : Int) < (S.deps.length : Int) := by omega
   obtain ⟨b0, o0, k0, a0, c0, hve, ⟨g0, g1⟩, hset⟩ := (HP.out.extNo HXR.out).vals.cells (i := m) (by rw [HL1.out]; exact hmN)
   rw [HL1.out] at hve
   simp only [Value.slice.injEq] at hve
   obtain ⟨rfl, -, rfl⟩ := hve
   clear hci hmem hme
   go_wp2_with fail
   clear q1 g0 g1 cA cB d0
   refine (rmemL_any No S.w (rowD vs m) _ _ (fun _ e => e.elim) hset.out).mono ?_
   rintro e3 w3 ⟨a3, c3, rfl, hrow, hx3⟩
   obtain ⟨ms, hms⟩ : ∃ ms, ms = rmT (rowD vs m) S.w := ⟨_, rfl⟩
   rw [← hms] at hrow ⊢
   have HMS := Lib.hid (show memD S vs m = ms from hms.symm)
   have hml : ms.length ≤ 256 := by rw [hms]; exact memD_len hww vs m
   have HY3 := Lib.hid (hx.out.transNo hx3)
   have HROW := Lib.hid hrow.out
   have HL3 := Lib.hid (show (rkD R m).length = ms.length from by rw [← HMS.out]; exact HP.out.l3 m hmN)
   clear hms hrow hx3 hset HXR hx
   go_wp2_with fail
   go_loopw [12] (fun q wz => ∃ j : Nat, j ≤ ms.length ∧ q = .int .i64 j ∧ Hid (Ext No w3 wz) ∧ Hid (∀ p (h : p < ms.length) (h2 : p < (rkD R m).length), p < j → ¬ ((rkD R m)[p] < y ∧ followsX (trD S m) ms[p] x = true))) (fun q _ => ms.length - (intOf q).toNat)
   case atStart => exact ⟨0, Nat.zero_le _, rfl, Lib.hid (Ext.refl _ _), Lib.hid (fun _ _ _ hj => absurd hj (Nat.not_lt_zero _))⟩
   obtain ⟨j, hj, rfl, hz, hno⟩ := hrel
   rename World => wz
   by_cases hltj : j < ms.length
   ·have hjz : (j : Int) < (ms.length : Int) := by omega
    have HJJ : Hid (Value.int .i64 ((j : Int) + 1) = .int .i64 ((j + 1 : Nat) : Int)) := Lib.hid (by rw [show ((j + 1 : Nat) : Int) = (j : Int) + 1 from by omega])
    have HYZ := Lib.hid (HY3.out.transNo hz.out)
    have HXZ := Lib.hid (HX1.out.transNo HYZ.out)
    have HAz := Lib.hid (HYZ.out.blk HA1.out no_no)
    have HBz := Lib.hid (HYZ.out.blk HB1.out no_no)
    obtain ⟨bm, om, km, hme, -, -, hcm⟩ := Ints.at (show Ints No wz .i64 (.slice a3 ms.length c3) ms from Row.extNo HROW.out hz.out) hltj
    simp only [Value.slice.injEq] at hme
    obtain ⟨rfl, -, rfl⟩ := hme
    have q0 := hcm j hltj
    obtain ⟨u, hu⟩ : ∃ u, u = ms[j] := ⟨_, rfl⟩
    rw [← hu] at q0
    have HU := Lib.hid hu
    have HQ0 := Lib.hid q0
    have HUM := Lib.hid (show u ∈ memD S vs m from by rw [HMS.out, hu]; exact List.getElem_mem _)
    have hjr : j < (rkD R m).length := by rw [HL3.out]; exact hltj
    obtain ⟨z, hzz⟩ : ∃ z, z = (rkD R m)[j] := ⟨_, rfl⟩
    have HZ := Lib.hid hzz
    have HR1 := Lib.hid (show ∀ z', RankV S vs R m u z' → z' = z from fun z' ⟨p, hp, hp2, e1, e2⟩ => by
     have : p = j := memD_inj hp (by rw [HMS.out]; exact hltj) (by rw [e1, HU.out]; simp only [HMS.out])
     subst this
     rw [e2, hzz])
    have HR2 := Lib.hid (show ∀ z', RankV S vs R n x z' → z' = y from fun z' h => rankV_uniq h HRV.out)
    obtain ⟨bt, ot, kt, ag, cg, ak, ck, ac, nc, cc, hte, ⟨t0, t1, t2, t3, t4⟩, htr, htw⟩ := (H.out.extNo HXZ.out).tr hmN
    simp only [Value.slice.injEq] at hte
    obtain ⟨rfl, -, rfl⟩ := hte
    have HT0 := Lib.hid t0
    have HT1 := Lib.hid t1
    have HT2 := Lib.hid t2
    have HT3 := Lib.hid t3
    have HT4 := Lib.hid t4
    have HTR := Lib.hid htr.out
    have HTW := Lib.hid htw.out
    clear hcm hu q0 hzz t0 t1 t2 t3 t4 htr htw
    by_cases hlty : z < y
    ·cases hf : followsX (trD S m) u x with
     | true =>
      have HF := Lib.hid hf
      clear hf
      go_upto_region 11 with (fail)
      refine wp_region_held_drew (S := (fun w' => Ext No wz w')) (by kernel_rfl) ?_ (fun hHeld => ?_)
      ·exact (Ext.refl _ _).drew
      have HE := Lib.hid (show Ext No wz wz.drew from (Ext.refl No _).drew)
      generalize wz.drew = v0 at *
      refine hHs [0, 1, 2, 3, 4] ?_
      iterate 5
       refine hTn ?_ hHeld (fun w hSw => ?_) ?_
       rotate_left
       ·(have q0 := cellOf ((show Ext No wz _ from hSw).blk HBz.out no_no)); go_simp; (try with_reducible rfl)
       simp only [Act.put, nzA, nzB, nzC]
      refine hHe ?_
      refine hTk 5 ?_ hHeld (fun w hSw => ?_) ?_
      rotate_left
      ·(have y0 := (show Ext No wz _ from hSw).keep HQ0.out); go_simp; (try with_reducible rfl)
      simp only [Act.put, nzA, nzB, nzC]
      refine hHs [7, 8, 9] ?_
      iterate 3
       refine hTn ?_ hHeld (fun w hSw => ?_) ?_
       rotate_left
       ·(have q0 := cellOf ((show Ext No wz _ from hSw).blk HBz.out no_no)); go_simp; (try with_reducible rfl)
       simp only [Act.put, nzA, nzB, nzC]
      refine hHe ?_
      refine hHc 6 fun K hK => ?_
      (go_simp; (go_at_call 99); (refine (rrank_any S _ _ vs R m u _ hnn hww (HP.out.extNo (HXZ.out.transNo HE.out)) hmN HUM.out).mono ?_); (rintro e7 v1 ⟨z', rfl, hrk, hyA⟩); (obtain rfl : z' = z := HR1.out _ hrk); (clear hrk); go_simp)
      refine hK.out _ _ ?_ ?_
      ·exact HE.out.transNo hyA
      clear hK K hHeld
      intro hHeld
      replace HE := Lib.hid (HE.out.transNo hyA)
      clear hyA
      try simp only [Act.put, nzA, nzB, nzC]
      refine hHc 10 fun K hK => ?_
      (go_simp; (go_at_call 99); (refine (rrank_any S _ _ vs R n x _ hnn hww (HP.out.extNo (HXZ.out.transNo HE.out)) hm (rankV_mem HRV.out)).mono ?_); (rintro e7 v2 ⟨y', rfl, hrk, hyA⟩); (obtain rfl : y' = y := HR2.out _ hrk); (clear hrk); go_simp)
      refine hK.out _ _ ?_ ?_
      ·exact HE.out.transNo hyA
      clear hK K hHeld
      intro hHeld
      replace HE := Lib.hid (HE.out.transNo hyA)
      clear hyA
      try simp only [Act.put, nzA, nzB, nzC]
      refine hHs [11, 12, 13, 14, 15, 16] ?_
      iterate 6
       refine hTn ?_ hHeld (fun w hSw => ?_) ?_
       rotate_left
       ·(have q0 := cellOf ((show Ext No wz _ from hSw).blk HAz.out no_no)); go_simp; (try with_reducible rfl)
       simp only [Act.put, nzA, nzB, nzC]
      refine hHe ?_
      refine hHs [17, 18, 19, 20] ?_
      iterate 4
       refine hTn ?_ hHeld (fun w hSw => ?_) ?_
       rotate_left
       ·(have q0 := (show Ext No wz _ from hSw).keep HT0.out); (have q1 := (show Ext No wz _ from hSw).keep HT1.out); (have q2 := (show Ext No wz _ from hSw).keep HT2.out); (have q3 := (show Ext No wz _ from hSw).keep HT3.out); (have q4 := (show Ext No wz _ from hSw).keep HT4.out); go_simp; (try with_reducible rfl)
       simp only [Act.put, nzA, nzB, nzC]
      refine hHe ?_
      refine hHs [21, 22] ?_
      iterate 2
       refine hTn ?_ hHeld (fun w hSw => ?_) ?_
       rotate_left
       ·(have q0 := (show Ext No wz _ from hSw).keep HQ0.out); go_simp; (try with_reducible rfl)
       simp only [Act.put, nzA, nzB, nzC]
      refine hHe ?_
      refine hHc 23 fun K hK => ?_
      (go_simp; (go_at_call 100); (have hfo := rFollowsP_any (trD S m) (.slice ag (nw S.w) cg) (.slice ak (nw S.w) ck) (.slice ac nc cc) u x v2 ((HTR.out).extNo HE.out)); (rw [HTW.out] at hfo); (refine hfo.mono ?_); (clear hfo); (rintro e7 v3 ⟨rfl, hyA⟩); (rw [HF.out]); go_simp)
      refine hK.out _ _ ?_ ?_
      ·exact HE.out.transNo hyA
      clear hK K hHeld
      intro hHeld
      replace HE := Lib.hid (HE.out.transNo hyA)
      clear hyA
      try simp only [Act.put, nzA, nzB, nzC]
      refine hTk 24 ?_ hHeld (fun w hSw => ?_) ?_
      rotate_left
      ·go_simp; (try with_reducible rfl)
      simp only [Act.put, nzA, nzB, nzC]
      refine wpAnyH_done (by kernel_rfl) ?_ _
      go_wp2_with fail
      go_ret
      exact ⟨true, rfl, ⟨fun _ => .inr ⟨k, by rw [← HDL.out]; exact hlt, .inr ⟨j, by simp only [← HDL.out, ← HME.out, HMS.out]; exact hltj, by simp only [← HDL.out, ← HME.out]; exact hjr, by simp only [← HDL.out, ← HME.out]; rw [← HZ.out]; exact hlty, by simp only [← HDL.out, ← HME.out, HMS.out]; rw [← HU.out]; exact HF.out⟩⟩, fun _ => rfl⟩, HXZ.out.transNo HE.out⟩
     | false =>
      have HF := Lib.hid hf
      clear hf
      go_upto_region 11 with (fail)
      refine wp_region_held_drew (S := (fun w' => Ext No wz w')) (by kernel_rfl) ?_ (fun hHeld => ?_)
      ·exact (Ext.refl _ _).drew
      have HE := Lib.hid (show Ext No wz wz.drew from (Ext.refl No _).drew)
      generalize wz.drew = v0 at *
      refine hHs [0, 1, 2, 3, 4] ?_
      iterate 5
       refine hTn ?_ hHeld (fun w hSw => ?_) ?_
       rotate_left
       ·(have q0 := cellOf ((show Ext No wz _ from hSw).blk HBz.out no_no)); go_simp; (try with_reducible rfl)
       simp only [Act.put, nzA, nzB, nzC]
      refine hHe ?_
      refine hTk 5 ?_ hHeld (fun w hSw => ?_) ?_
      rotate_left
      ·(have y0 := (show Ext No wz _ from hSw).keep HQ0.out); go_simp; (try with_reducible rfl)
      simp only [Act.put, nzA, nzB, nzC]
      refine hHs [7, 8, 9] ?_
      iterate 3
       refine hTn ?_ hHeld (fun w hSw => ?_) ?_
       rotate_left
       ·(have q0 := cellOf ((show Ext No wz _ from hSw).blk HBz.out no_no)); go_simp; (try with_reducible rfl)
       simp only [Act.put, nzA, nzB, nzC]
      refine hHe ?_
      refine hHc 6 fun K hK => ?_
      (go_simp; (go_at_call 99); (refine (rrank_any S _ _ vs R m u _ hnn hww (HP.out.extNo (HXZ.out.transNo HE.out)) hmN HUM.out).mono ?_); (rintro e7 v1 ⟨z', rfl, hrk, hyA⟩); (obtain rfl : z' = z := HR1.out _ hrk); (clear hrk); go_simp)
      refine hK.out _ _ ?_ ?_
      ·exact HE.out.transNo hyA
      clear hK K hHeld
      intro hHeld
      replace HE := Lib.hid (HE.out.transNo hyA)
      clear hyA
      try simp only [Act.put, nzA, nzB, nzC]
      refine hHc 10 fun K hK => ?_
      (go_simp; (go_at_call 99); (refine (rrank_any S _ _ vs R n x _ hnn hww (HP.out.extNo (HXZ.out.transNo HE.out)) hm (rankV_mem HRV.out)).mono ?_); (rintro e7 v2 ⟨y', rfl, hrk, hyA⟩); (obtain rfl : y' = y := HR2.out _ hrk); (clear hrk); go_simp)
      refine hK.out _ _ ?_ ?_
      ·exact HE.out.transNo hyA
      clear hK K hHeld
      intro hHeld
      replace HE := Lib.hid (HE.out.transNo hyA)
      clear hyA
      try simp only [Act.put, nzA, nzB, nzC]
      refine hHs [11, 12, 13, 14, 15, 16] ?_
      iterate 6
       refine hTn ?_ hHeld (fun w hSw => ?_) ?_
       rotate_left
       ·(have q0 := cellOf ((show Ext No wz _ from hSw).blk HAz.out no_no)); go_simp; (try with_reducible rfl)
       simp only [Act.put, nzA, nzB, nzC]
      refine hHe ?_
      refine hHs [17, 18, 19, 20] ?_
      iterate 4
       refine hTn ?_ hHeld (fun w hSw => ?_) ?_
       rotate_left
       ·(have q0 := (show Ext No wz _ from hSw).keep HT0.out); (have q1 := (show Ext No wz _ from hSw).keep HT1.out); (have q2 := (show Ext No wz _ from hSw).keep HT2.out); (have q3 := (show Ext No wz _ from hSw).keep HT3.out); (have q4 := (show Ext No wz _ from hSw).keep HT4.out); go_simp; (try with_reducible rfl)
       simp only [Act.put, nzA, nzB, nzC]
      refine hHe ?_
      refine hHs [21, 22] ?_
      iterate 2
       refine hTn ?_ hHeld (fun w hSw => ?_) ?_
       rotate_left
       ·(have q0 := (show Ext No wz _ from hSw).keep HQ0.out); go_simp; (try with_reducible rfl)
       simp only [Act.put, nzA, nzB, nzC]
      refine hHe ?_
      refine hHc 23 fun K hK => ?_
      (go_simp; (go_at_call 100); (have hfo := rFollowsP_any (trD S m) (.slice ag (nw S.w) cg) (.slice ak (nw S.w) ck) (.slice ac nc cc) u x v2 ((HTR.out).extNo HE.out)); (rw [HTW.out] at hfo); (refine hfo.mono ?_); (clear hfo); (rintro e7 v3 ⟨rfl, hyA⟩); (rw [HF.out]); go_simp)
      refine hK.out _ _ ?_ ?_
      ·exact HE.out.transNo hyA
      clear hK K hHeld
      intro hHeld
      replace HE := Lib.hid (HE.out.transNo hyA)
      clear hyA
      try simp only [Act.put, nzA, nzB, nzC]
      refine hTk 24 ?_ hHeld (fun w hSw => ?_) ?_
      rotate_left
      ·go_simp; (try with_reducible rfl)
      simp only [Act.put, nzA, nzB, nzC]
      refine wpAnyH_done (by kernel_rfl) ?_ _
      go_wp2_with fail
      go_roundw
      case rel => exact ⟨j + 1, by omega, HJJ.out, Lib.hid (hz.out.transNo HE.out), Lib.hid (fun p hp hp2 hpj => by
       by_cases e : p = j
       ·subst e
        rintro ⟨e1, e2⟩
        rw [← HZ.out] at e1
        rw [← HU.out] at e2
        exact absurd e2 (by rw [HF.out]; simp)
       exact hno.out p hp hp2 (by omega))⟩
      case measure => simp [intOf]; omega
    have HLY := Lib.hid hlty
    go_upto_region 11 with (fail)
    refine wp_region_held_drew (S := (fun w' => Ext No wz w')) (by kernel_rfl) ?_ (fun hHeld => ?_)
    ·exact (Ext.refl _ _).drew
    have HE := Lib.hid (show Ext No wz wz.drew from (Ext.refl No _).drew)
    generalize wz.drew = v0 at *
    refine hHs [0, 1, 2, 3, 4] ?_
    iterate 5
     refine hTn ?_ hHeld (fun w hSw => ?_) ?_
     rotate_left
     ·(have q0 := cellOf ((show Ext No wz _ from hSw).blk HBz.out no_no)); go_simp; (try with_reducible rfl)
     simp only [Act.put, nzA, nzB, nzC]
    refine hHe ?_
    refine hTk 5 ?_ hHeld (fun w hSw => ?_) ?_
    rotate_left
    ·(have y0 := (show Ext No wz _ from hSw).keep HQ0.out); go_simp; (try with_reducible rfl)
    simp only [Act.put, nzA, nzB, nzC]
    refine hHs [7, 8, 9] ?_
    iterate 3
     refine hTn ?_ hHeld (fun w hSw => ?_) ?_
     rotate_left
     ·(have q0 := cellOf ((show Ext No wz _ from hSw).blk HBz.out no_no)); go_simp; (try with_reducible rfl)
     simp only [Act.put, nzA, nzB, nzC]
    refine hHe ?_
    refine hHc 6 fun K hK => ?_
    (go_simp; (go_at_call 99); (refine (rrank_any S _ _ vs R m u _ hnn hww (HP.out.extNo (HXZ.out.transNo HE.out)) hmN HUM.out).mono ?_); (rintro e7 v1 ⟨z', rfl, hrk, hyA⟩); (obtain rfl : z' = z := HR1.out _ hrk); (clear hrk); go_simp)
    refine hK.out _ _ ?_ ?_
    ·exact HE.out.transNo hyA
    clear hK K hHeld
    intro hHeld
    replace HE := Lib.hid (HE.out.transNo hyA)
    clear hyA
    try simp only [Act.put, nzA, nzB, nzC]
    refine hHc 10 fun K hK => ?_
    (go_simp; (go_at_call 99); (refine (rrank_any S _ _ vs R n x _ hnn hww (HP.out.extNo (HXZ.out.transNo HE.out)) hm (rankV_mem HRV.out)).mono ?_); (rintro e7 v2 ⟨y', rfl, hrk, hyA⟩); (obtain rfl : y' = y := HR2.out _ hrk); (clear hrk); go_simp)
    refine hK.out _ _ ?_ ?_
    ·exact HE.out.transNo hyA
    clear hK K hHeld
    intro hHeld
    replace HE := Lib.hid (HE.out.transNo hyA)
    clear hyA
    try simp only [Act.put, nzA, nzB, nzC]
    refine hHs [11, 12] ?_
    iterate 2
     refine hTn ?_ hHeld (fun w hSw => ?_) ?_
     rotate_left
     ·go_simp; (try with_reducible rfl)
     simp only [Act.put, nzA, nzB, nzC]
    refine hHe ?_
    refine hHs [13, 14, 15, 16, 17, 18, 19, 20, 21, 22, 23] ?_
    iterate 11
     refine hSn hHeld ?_
     simp only [Act.put, nzA, nzB, nzC]
    refine hHe ?_
    refine hTk 24 ?_ hHeld (fun w hSw => ?_) ?_
    rotate_left
    ·go_simp; (try with_reducible rfl)
    simp only [Act.put, nzA, nzB, nzC]
    refine wpAnyH_done (by kernel_rfl) ?_ _
    go_wp2_with fail
    go_roundw
    case rel => exact ⟨j + 1, by omega, HJJ.out, Lib.hid (hz.out.transNo HE.out), Lib.hid (fun p hp hp2 hpj => by
     by_cases e : p = j
     ·subst e
      rintro ⟨e1, e2⟩
      rw [← HZ.out] at e1
      rw [← HU.out] at e2
      exact HLY.out e1
     exact hno.out p hp hp2 (by omega))⟩
    case measure => simp [intOf]; omega
   have hgej : ¬ (j : Int) < (ms.length : Int) := by omega
   go_wp2_with fail
   go_roundw
   case rel => exact ⟨k + 1, by omega, HKK.out, Lib.hid (HY3.out.transNo hz.out), Lib.hid (fun q hq hqk => by
    by_cases e : q = k
    ·subst e
     rintro ⟨p, hp, hp2, e1, e2⟩
     simp only [← HME.out] at hp hp2 e1 e2
     simp only [HMS.out] at hp e2
     exact hno.out p hp hp2 (by omega) ⟨e1, e2⟩
    exact hall.out q hq (by omega))⟩
   case measure => simp [intOf]; omega
  have hge : ¬ (k : Int) < (dl.length : Int) := by omega
  go_wp2_with fail
  go_ret
  exact ⟨false, rfl, ⟨fun e => (by cases e), fun h => by
   exfalso
   rcases h with h | ⟨j, hj, h | h⟩
   ·exact HNO.out (.inl h)
   ·exact HNO.out (.inr ⟨j, hj, h⟩)
   simp only [← HDL.out] at hj h
   exact hall.out j hj (by omega) h⟩, HXR.out⟩
