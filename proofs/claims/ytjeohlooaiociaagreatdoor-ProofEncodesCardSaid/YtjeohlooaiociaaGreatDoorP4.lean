
import Derived.Test.YtjeohlooaiociaaGreatDoorP3
import Derived.WalkMore
import Derived.Deep.LoopGhost
set_option linter.unusedVariables false
set_option linter.unusedSimpArgs false
namespace Go.Proofs.YtjeohlooaiociaaGreatDoor
open Go Go.RowKit
def CauseP (S : SysD) (vs : List Nat) (R : LD) (n : Nat) (b rank : Int) : Prop := hasZ S.w (rowD S.bnd n) b = true ∨ ∃ j, ∃ h : j < (depD S n).length, hasZ S.w (trD S (depD S n)[j]).gen b = true ∨ EarlP S vs R (depD S n)[j] b rank
def DerP (S : SysD) (vs : List Nat) (R : LD) (n : Nat) : Prop := ∀ i, ∀ h : i < (memD S vs n).length, ∀ h2 : i < (rkD R n).length, CauseP S vs R n (memD S vs n)[i] (rkD R n)[i]
set_option maxRecDepth 100000 in
set_option maxHeartbeats 8000000 in
theorem derived_any (S : SysD) (vd vt vb vv vr : Value) (vs : List Nat) (R : LD) (n : Nat) (W : World) (hT : TabW W) (h : SysAt No W vd vt vb S) (hp : PrfAt No W S vv vr vs R) (hm : n < S.deps.length) :
  Calls Tryz.prog 52 #[.agg #[.int .i64 (S.w : Int), vd, vt, vb], .agg #[vv, vr], .int .i64 (n : Int)] W (Tells (DerP S vs R n) W) := by
 have H := Lib.hid h
 have HP := Lib.hid hp
 have HT := Lib.hid hT
 have HOK := Lib.hid h.ok
 have hnn := h.ok.n2
 obtain ⟨ad, cd, at1, ct, ab, cb, rfl, rfl, rfl⟩ := h.slices
 obtain ⟨av, cv, rfl⟩ := hp.vals.slice
 obtain ⟨ar, cr, rfl⟩ := hp.rk.slice
 have hmz : (n : Int) < (S.deps.length : Int) := by omega
 have hmz0 : (0 : Int) ≤ (n : Int) := by omega
 have HL1 := Lib.hid hp.l1
 have HL2 := Lib.hid hp.l2
 have HL3 := Lib.hid (hp.l3 n hm)
 clear h hp hT
 go_enter Tryz.func52, Tryz.ntmps52
 go_wp2_with fail
 go_step3
 go_wp2_with fail
 go_step3
 go_upto_region 1 with (fail)
 have hx0 : Ext No W ((W.alloc (.cells #[.int .i64 (S.w : Int), .slice ad S.deps.length cd, .slice at1 S.deps.length ct, .slice ab S.deps.length cb] 27)).alloc (.cells #[.slice av vs.length cv, .slice ar R.length cr] 29)) := ((Ext.refl _ _).alloc _).alloc _
 have HA := Lib.hid (show ((W.alloc (.cells #[.int .i64 (S.w : Int), .slice ad S.deps.length cd, .slice at1 S.deps.length ct, .slice ab S.deps.length cb] 27)).alloc (.cells #[.slice av vs.length cv, .slice ar R.length cr] 29)).heap[W.heap.size]? = some (.cells #[.int .i64 (S.w : Int), .slice ad S.deps.length cd, .slice at1 S.deps.length ct, .slice ab S.deps.length cb] 27 (0, 0)) from alloc_under (alloc_top rfl))
 have HB := Lib.hid (show ((W.alloc (.cells #[.int .i64 (S.w : Int), .slice ad S.deps.length cd, .slice at1 S.deps.length ct, .slice ab S.deps.length cb] 27)).alloc (.cells #[.slice av vs.length cv, .slice ar R.length cr] 29)).heap[W.heap.size + 1]? = some (.cells #[.slice av vs.length cv, .slice ar R.length cr] 29 (0, 0)) from alloc_top (by simp))
 generalize ((W.alloc (.cells #[.int .i64 (S.w : Int), .slice ad S.deps.length cd, .slice at1 S.deps.length ct, .slice ab S.deps.length cb] 27)).alloc (.cells #[.slice av vs.length cv, .slice ar R.length cr] 29)) = V at *
 generalize W.heap.size = A at *
 obtain ⟨b0, o0, k0, a0, c0, hve, ⟨g0, g1⟩, hset⟩ := (HP.out.extNo hx0).vals.cells (i := n) (by rw [HL1.out]; exact hm)
 simp only [Value.slice.injEq] at hve
 obtain ⟨rfl, -, rfl⟩ := hve
 have hmv : (n : Int) < (vs.length : Int) := by rw [HL1.out]; omega
 have cB := cellOf HB.out
 have HX := Lib.hid hx0
 clear hx0
 go_wp2_with fail
 refine (members_any No S.w (rowD vs n) _ _ (fun _ e => e.elim) (HT.out.ext HX.out) hset.out).mono ?_
 rintro e1 w1 ⟨a1, rfl, hrow, hx1⟩
 have HX1 := Lib.hid (HX.out.transNo hx1)
 have HA1 := Lib.hid (hx1.blk HA.out no_no)
 have HB1 := Lib.hid (hx1.blk HB.out no_no)
 obtain ⟨ms, hms⟩ : ∃ ms, ms = membersN S.w (rowD vs n) := ⟨_, rfl⟩
 rw [← hms] at hrow ⊢
 have HMS := Lib.hid (show memD S vs n = ms from hms.symm)
 have hml : ms.length ≤ 256 := by
  rw [hms]; unfold membersN
  rw [List.length_map]
  have := List.length_filter_le (fun b => (rowD vs n).testBit b) (List.range S.w)
  have hw := HOK.out.w
  simp at this; omega
 have hl3 := HL3.out
 rw [show memD S vs n = ms from hms.symm] at hl3
 have HL4 := Lib.hid hl3
 clear hl3
 have HR := Lib.hid hrow.out
 clear hms hrow hx1 HX HA HB cB g0 g1 hset
 go_wp2_with fail
 go_loopg [7, 8, 10, 18] ms.length (fun q _ _ _ i wr => ∃ k : Nat, k ≤ ms.length ∧ q = ms.length - k ∧ i = .int .i64 k ∧ Hid (Ext No w1 wr) ∧ Hid (∀ j, ∀ h : j < ms.length, ∀ h2 : j < (rkD R n).length, j < k → CauseP S vs R n ms[j] (rkD R n)[j]))
 case atStart => exact ⟨0, Nat.zero_le _, rfl, rfl, Lib.hid (Ext.refl _ _), Lib.hid (fun j _ _ hj => absurd hj (Nat.not_lt_zero _))⟩
 obtain ⟨k, hk, hq, rfl, hx, hall⟩ := hrel
 have HQQ := Lib.hid hq
 clear hq
 rename World => wr
 have HXR := Lib.hid (HX1.out.transNo hx.out)
 by_cases hlt : k < ms.length
 ·have hlz : (k : Int) < (ms.length : Int) := by omega
  have HKK : Hid (Value.int .i64 ((k : Int) + 1) = .int .i64 ((k + 1 : Nat) : Int)) := Lib.hid (by rw [show ((k + 1 : Nat) : Int) = (k : Int) + 1 from by omega])
  have hlr : k < (rkD R n).length := by rw [HL4.out]; exact hlt
  have hlrz : (k : Int) < ((rkD R n).length : Int) := by omega
  have hmr : (n : Int) < (R.length : Int) := by rw [HL2.out]; omega
  obtain ⟨bm, om, km, hme, -, -, hcm⟩ := Ints.at (show Ints No w1 .i64 _ ms from HR.out) hlt
  simp only [Value.slice.injEq] at hme
  obtain ⟨rfl, -, -⟩ := hme
  have q0 := hx.out.keep (hcm k hlt)
  obtain ⟨br, or, kr, ak, ck, hre, gr, hri⟩ := (HP.out.extNo HXR.out).rank hm
  simp only [Value.slice.injEq] at hre
  obtain ⟨rfl, -, rfl⟩ := hre
  obtain ⟨bi, oi, ki, hie, -, -, hci⟩ := Ints.at hri.out hlr
  simp only [Value.slice.injEq] at hie
  obtain ⟨rfl, -, rfl⟩ := hie
  have q1 := hci k hlr
  have HAr := Lib.hid (hx.out.blk HA1.out no_no)
  have HBr := Lib.hid (hx.out.blk HB1.out no_no)
  obtain ⟨x, hxx⟩ : ∃ x, x = ms[k] := ⟨_, rfl⟩
  obtain ⟨y, hyy⟩ : ∃ y, y = (rkD R n)[k] := ⟨_, rfl⟩
  rw [← hxx] at q0
  rw [← hyy] at q1
  have HXX := Lib.hid hxx
  have HYY := Lib.hid hyy
  have HQ1 := Lib.hid q1
  have HGR := Lib.hid gr
  have HNX : Hid (CauseP S vs R n x y → ∀ j, ∀ h : j < ms.length, ∀ h2 : j < (rkD R n).length, j < k + 1 → CauseP S vs R n ms[j] (rkD R n)[j]) := Lib.hid (fun hc j hj hj2 hjk => by
   by_cases e : j = k
   ·subst e
    rw [← HXX.out, ← HYY.out]; exact hc
   exact hall.out j hj hj2 (by omega))
  obtain ⟨bb, ob, kb, abn, cbn, hbe, b0', b1', hbs⟩ := (H.out.extNo HXR.out).bn hm
  simp only [Value.slice.injEq] at hbe
  obtain ⟨rfl, -, rfl⟩ := hbe
  have cA := cellOf HAr.out
  clear hcm hci hxx hyy hri q1 gr
  go_wp2_with fail
  clear q0 cA b0' b1'
  refine (has_any S.w (rowD S.bnd n) _ x _ hbs.out).mono ?_
  rintro e5 w5 ⟨rfl, hx5⟩
  cases hf : hasZ S.w (rowD S.bnd n) x with
  | true =>
   have HF := Lib.hid hf
   clear hf
   go_wp2_with fail
   go_roundg (ms.length - (k + 1))
   case rel => exact ⟨k + 1, by omega, rfl, HKK.out, Lib.hid (hx.out.transNo hx5), Lib.hid (HNX.out (.inl HF.out))⟩
   case measure => have := HQQ.out; omega
  | false =>
   have HF := Lib.hid hf
   clear hf
   have HX5 := Lib.hid (HXR.out.transNo hx5)
   have HY5 := Lib.hid (hx.out.transNo hx5)
   have HA5 := Lib.hid (hx5.blk HAr.out no_no)
   have HB5 := Lib.hid (hx5.blk HBr.out no_no)
   have HQ5 := Lib.hid (hx5.keep HQ1.out)
   have HG5 := Lib.hid (hx5.keep HGR.out)
   clear hx5 HAr HBr HQ1 HGR HXR hbs hx
   obtain ⟨bd, od, kd, aq, cq, hde, gd, hdi⟩ := (H.out.extNo HX5.out).dep hm
   simp only [Value.slice.injEq] at hde
   obtain ⟨rfl, -, rfl⟩ := hde
   obtain ⟨ds, hds⟩ : ∃ ds, ds = depD S n := ⟨_, rfl⟩
   rw [← hds] at gd hdi
   have HDS := Lib.hid hds
   have hdl := hdi.out.2.1
   rw [show (natsZ ds).length = ds.length from by simp [natsZ]] at hdl
   have cA := cellOf HA5.out
   clear hds
   go_wp2_with fail
   clear cA gd
   go_loopg [10, 36] ds.length (fun q2 _ i wx => ∃ k2 : Nat, k2 ≤ ds.length ∧ q2 = ds.length - k2 ∧ i = .int .i64 k2 ∧ Hid (Ext No w5 wx) ∧ Hid (∀ j, ∀ h : j < ds.length, j < k2 → ¬ (hasZ S.w (trD S ds[j]).gen x = true ∨ EarlP S vs R ds[j] x y)))
   case atStart => exact ⟨0, Nat.zero_le _, rfl, rfl, Lib.hid (Ext.refl _ _), Lib.hid (fun j _ hj => absurd hj (Nat.not_lt_zero _))⟩
   obtain ⟨k2, hk2, hq2, rfl, hx2, hno⟩ := hrel
   have HQ2 := Lib.hid hq2
   clear hq2
   rename World => wx
   have HX6 := Lib.hid (HX5.out.transNo hx2.out)
   by_cases hlt2 : k2 < ds.length
   ·have hlz2 : (k2 : Int) < (ds.length : Int) := by omega
    have HKK2 : Hid (Value.int .i64 ((k2 : Int) + 1) = .int .i64 ((k2 + 1 : Nat) : Int)) := Lib.hid (by rw [show ((k2 + 1 : Nat) : Int) = (k2 : Int) + 1 from by omega])
    obtain ⟨b6, o6, c6, hve6, -, -, hcell6⟩ := IntsP.at hdi.out hlt2
    simp only [Value.slice.injEq] at hve6
    obtain ⟨rfl, -, rfl⟩ := hve6
    have q0 := hx2.out.keep (hcell6 k2 hlt2)
    obtain ⟨m, hmm⟩ : ∃ m, m = ds[k2] := ⟨_, rfl⟩
    rw [← hmm] at q0
    have hmN : m < S.deps.length := by
     have h1 : m ∈ depD S n := by rw [← HDS.out, hmm]; exact List.getElem_mem _
     exact HOK.out.dep h1
    have hmnz : (m : Int) < (S.deps.length : Int) := by omega
    have hmnz0 : (0 : Int) ≤ (m : Int) := by omega
    obtain ⟨bt, ot, kt, tg, dg, tk, dk, tc, tn, dc, hte, ⟨t0, t1, t2, t3, t4⟩, htr, htw⟩ := (H.out.extNo HX6.out).tr hmN
    simp only [Value.slice.injEq] at hte
    obtain ⟨rfl, -, rfl⟩ := hte
    have HMM := Lib.hid hmm
    have HA6 := Lib.hid (hx2.out.blk HA5.out no_no)
    have HB6 := Lib.hid (hx2.out.blk HB5.out no_no)
    have HQ6 := Lib.hid (hx2.out.keep HQ5.out)
    have HG6 := Lib.hid (hx2.out.keep HG5.out)
    have HTG := Lib.hid (And.intro t0 t1)
    have HGEN := Lib.hid (show SetAt No wx (.slice tg (nw S.w) dg) S.w (trD S m).gen from htw.out ▸ htr.out.gen)
    clear hcell6 hmm t2 t3 t4 t0 t1 htr htw
    go_upto_region 8 with (fail)
    clear q0
    have HHIT : Hid (hasZ S.w (trD S m).gen x = true ∨ EarlP S vs R m x y → CauseP S vs R n x y) := Lib.hid (fun hc => .inr ⟨k2, by rw [← HDS.out]; exact hlt2, by simp only [← HDS.out]; rw [← HMM.out]; exact hc⟩)
    cases hg7 : hasZ S.w (trD S m).gen x with
    | true =>
     have HG7 := Lib.hid hg7
     clear hg7
     refine wp_region_held_drew (S := (fun w' => Ext No wx w')) (by kernel_rfl) ?_ (fun hHeld => ?_)
     ·exact (Ext.refl _ _).drew
     refine hHs [0, 1, 2, 3, 4] ?_
     iterate 5
      refine hTn ?_ hHeld (fun w hSw => ?_) ?_
      rotate_left
      ·(have hEs : Ext No wx _ := hSw); (have q0 := cellOf (hEs.blk HA6.out no_no)); go_simp; (try with_reducible rfl)
      simp only [Act.put, nzA, nzB, nzC]
     refine hHe ?_
     refine hHs [5, 6] ?_
     iterate 2
      refine hTn ?_ hHeld (fun w hSw => ?_) ?_
      rotate_left
      ·(have hEs : Ext No wx _ := hSw); (have q0 := hEs.keep HTG.out.1); (have q1 := hEs.keep HTG.out.2); go_simp; (try with_reducible rfl)
      simp only [Act.put, nzA, nzB, nzC]
     refine hHe ?_
     refine hHc 7 fun K hK => ?_
     ((have hEx : Ext No wx _ := hHeld); go_simp; (go_at_call 39); (refine (has_any S.w (trD S m).gen _ x _ (HGEN.out.extNo hEx)).mono ?_); (rintro e9 w9 ⟨rfl, hyA⟩); (rw [HG7.out]); go_simp)
     refine hK.out _ _ ?_ ?_
     ·exact Ext.transNo (show Ext No wx _ from hHeld) hyA
     clear hK K hHeld
     intro hHeld
     try simp only [Act.put, nzA, nzB, nzC]
     refine hTk 8 ?_ hHeld (fun w hSw => ?_) ?_
     rotate_left
     ·go_simp; (try with_reducible rfl)
     simp only [Act.put, nzA, nzB, nzC]
     refine hHs [9, 10, 11, 12, 13, 14, 15, 16, 17, 18, 19, 20, 21] ?_
     iterate 13
      refine hSn hHeld ?_
      simp only [Act.put, nzA, nzB, nzC]
     refine hHe ?_
     refine hTk 22 ?_ hHeld (fun w hSw => ?_) ?_
     rotate_left
     ·go_simp; (try with_reducible rfl)
     simp only [Act.put, nzA, nzB, nzC]
     refine wpAnyH_done (by kernel_rfl) ?_ _
     have hEx : Ext No wx _ := hHeld
     go_wp2_with fail
     go_roundg (ms.length - (k + 1))
     case rel => exact ⟨k + 1, by omega, rfl, HKK.out, Lib.hid (HY5.out.transNo (hx2.out.transNo hEx)), Lib.hid (HNX.out (HHIT.out (.inl HG7.out)))⟩
     case measure => have := HQQ.out; omega
    | false =>
     have HG7 := Lib.hid hg7
     clear hg7
     refine wp_region_held_drew (S := (fun w' => Ext No wx w')) (by kernel_rfl) ?_ (fun hHeld => ?_)
     ·exact (Ext.refl _ _).drew
     refine hHs [0, 1, 2, 3, 4] ?_
     iterate 5
      refine hTn ?_ hHeld (fun w hSw => ?_) ?_
      rotate_left
      ·(have hEs : Ext No wx _ := hSw); (have q0 := cellOf (hEs.blk HA6.out no_no)); go_simp; (try with_reducible rfl)
      simp only [Act.put, nzA, nzB, nzC]
     refine hHe ?_
     refine hHs [5, 6] ?_
     iterate 2
      refine hTn ?_ hHeld (fun w hSw => ?_) ?_
      rotate_left
      ·(have hEs : Ext No wx _ := hSw); (have q0 := hEs.keep HTG.out.1); (have q1 := hEs.keep HTG.out.2); go_simp; (try with_reducible rfl)
      simp only [Act.put, nzA, nzB, nzC]
     refine hHe ?_
     refine hHc 7 fun K hK => ?_
     ((have hEx : Ext No wx _ := hHeld); go_simp; (go_at_call 39); (refine (has_any S.w (trD S m).gen _ x _ (HGEN.out.extNo hEx)).mono ?_); (rintro e9 w9 ⟨rfl, hyA⟩); (rw [HG7.out]); go_simp)
     refine hK.out _ _ ?_ ?_
     ·exact Ext.transNo (show Ext No wx _ from hHeld) hyA
     clear hK K hHeld
     intro hHeld
     try simp only [Act.put, nzA, nzB, nzC]
     refine hHs [8, 9] ?_
     iterate 2
      refine hTn ?_ hHeld (fun w hSw => ?_) ?_
      rotate_left
      ·(have hEs : Ext No wx _ := hSw); (have q0 := cellOf (hEs.blk HA6.out no_no)); go_simp; (try with_reducible rfl)
      simp only [Act.put, nzA, nzB, nzC]
     refine hHe ?_
     refine hHs [10, 11, 12, 13, 14, 15, 16] ?_
     iterate 7
      refine hTn ?_ hHeld (fun w hSw => ?_) ?_
      rotate_left
      ·(have hEs : Ext No wx _ := hSw); (have q0 := cellOf (hEs.blk HB6.out no_no)); go_simp; (try with_reducible rfl)
      simp only [Act.put, nzA, nzB, nzC]
     refine hHe ?_
     refine hHs [17, 18, 19] ?_
     iterate 3
      refine hTn ?_ hHeld (fun w hSw => ?_) ?_
      rotate_left
      ·(have hEs : Ext No wx _ := hSw); (have q0 := hEs.keep HG6.out); go_simp; (try with_reducible rfl)
      simp only [Act.put, nzA, nzB, nzC]
     refine hHe ?_
     refine hTk 20 ?_ hHeld (fun w hSw => ?_) ?_
     rotate_left
     ·(have hEs : Ext No wx _ := hSw); (have x0 := hEs.keep HQ6.out); go_simp; (try with_reducible rfl)
     simp only [Act.put, nzA, nzB, nzC]
     refine hHc 21 fun K hK => ?_
     ((have hEx : Ext No wx _ := hHeld); go_simp; (go_at_call 93); (refine (earlier_any S _ _ _ _ _ vs R m x y _ (HT.out.ext (HX6.out.transNo hEx)) (H.out.extNo (HX6.out.transNo hEx)) (HP.out.extNo (HX6.out.transNo hEx)) hmN).mono ?_); (rintro e9 w9 ⟨be, rfl, hbe, hyA⟩); (have HBE := Lib.hid hbe); (clear hbe); go_simp)
     refine hK.out _ _ ?_ ?_
     ·exact Ext.transNo (show Ext No wx _ from hHeld) hyA
     clear hK K hHeld
     intro hHeld
     try simp only [Act.put, nzA, nzB, nzC]
     refine hTk 22 ?_ hHeld (fun w hSw => ?_) ?_
     rotate_left
     ·go_simp; (try with_reducible rfl)
     simp only [Act.put, nzA, nzB, nzC]
     refine wpAnyH_done (by kernel_rfl) ?_ _
     have hEx : Ext No wx _ := hHeld
     cases be with
     | true =>
      go_wp2_with fail
      go_roundg (ms.length - (k + 1))
      case rel => exact ⟨k + 1, by omega, rfl, HKK.out, Lib.hid (HY5.out.transNo (hx2.out.transNo hEx)), Lib.hid (HNX.out (HHIT.out (.inr (by have h := HBE.out; simpa using h))))⟩
      case measure => have := HQQ.out; omega
     | false =>
      go_wp2_with fail
      go_roundg (ds.length - (k2 + 1))
      case rel => exact ⟨k2 + 1, by omega, rfl, HKK2.out, Lib.hid (hx2.out.transNo hEx), Lib.hid (fun j hj hjk => by
       by_cases e : j = k2
       ·subst e
        rw [← HMM.out, HG7.out]
        rintro (h | h)
        ·cases h
        have h9 := HBE.out; simp at h9; exact h9 h
       exact hno.out j hj (by omega))⟩
      case measure => have := HQ2.out; omega
   have hge2 : ¬ (k2 : Int) < (ds.length : Int) := by omega
   go_wp2_with fail
   (try rw [Exit.noGoto_ret])
   go_ret
   refine ⟨false, rfl, ⟨fun h => (by cases h), fun h => ?_⟩, HX6.out⟩
   have h1 := h k (by rw [HMS.out]; exact hlt) hlr
   simp only [HMS.out] at h1
   rw [← HXX.out, ← HYY.out] at h1
   rcases h1 with h1 | ⟨j, hj, h1⟩
   ·rw [HF.out] at h1; cases h1
   simp only [← HDS.out] at hj h1
   exact absurd h1 (hno.out j hj (by omega))
 have hge : ¬ (k : Int) < (ms.length : Int) := by omega
 go_wp2_with fail
 (try rw [Exit.noGoto_ret])
 go_ret
 exact ⟨true, rfl, ⟨fun _ i hi hi2 => by
  simp only [HMS.out] at hi ⊢
  exact hall.out i hi hi2 (by omega), fun _ => rfl⟩, HXR.out⟩
