
import Derived.Test.YtjeohlooaiociaaGreatDoorP24
set_option linter.unusedVariables false
set_option linter.unusedSimpArgs false
namespace Go.Proofs.YtjeohlooaiociaaGreatDoor
open Go Go.RowKit
theorem rcounter_any (r : Int) (W : World) : Calls Tryz.prog 94 #[.int .i64 r] W (Tells (¬ RkBad r) W) := by
 go_enter Tryz.func94, Tryz.ntmps94
 by_cases h1 : 0 ≤ r
 ·by_cases h2 : r ≤ 1073741824
  ·go_wp2_with fail
   go_ret
   exact ⟨true, rfl, ⟨fun _ e => by unfold RkBad at e; omega, fun _ => rfl⟩, Ext.refl _ _⟩
  go_wp2_with fail
  go_ret
  exact ⟨false, rfl, ⟨fun e => (by cases e), fun e => absurd (show RkBad r from .inr (by omega)) e⟩, Ext.refl _ _⟩
 go_wp2_with fail
 go_ret
 exact ⟨false, rfl, ⟨fun e => (by cases e), fun e => absurd (show RkBad r from .inl (by omega)) e⟩, Ext.refl _ _⟩
theorem rankOk_iff {s : RawSet} {l : List Int} (hl : ∀ n ∈ s.words, n < 2 ^ 64) : RankOk s l ↔ validB s = true ∧ l.length = (memR s).length ∧ ∀ k (hk : k < l.length), ¬ RkBad l[k] := by
 constructor
 ·rintro ⟨w, m, hw, hm, rfl, h1, h2⟩
  exact ⟨validB_set hw hm, by rw [memR_set hw hm]; exact h1, h2⟩
 rintro ⟨h1, h2, h3⟩
 obtain ⟨w, m, hw, hm, rfl⟩ := (validB_iff hl).1 h1
 rw [memR_set hw hm] at h2
 exact ⟨w, m, hw, hm, rfl, h2, h3⟩
set_option maxRecDepth 100000 in
set_option maxHeartbeats 8000000 in
theorem rranked_any (vv vr : Value) (Lv : LS) (R : LD) (W : World) (hv : LAt kS No W vv Lv) (hr : LAt kD No W vr R) :
  Calls Tryz.prog 53 #[.agg #[vv, vr]] W (Tells (RankedP Lv R) W) := by
 have HV := Lib.hid hv
 have HR := Lib.hid hr
 obtain ⟨av, cv, rfl⟩ := hv.slice
 obtain ⟨ar, cr, rfl⟩ := hr.slice
 have hlv := hv.row.2.1
 have hlr := hr.row.2.1
 obtain ⟨nL, hnL⟩ : ∃ nL, nL = Lv.length := ⟨_, rfl⟩
 obtain ⟨nR, hnR⟩ : ∃ nR, nR = R.length := ⟨_, rfl⟩
 rw [← hnL] at HV hlv ⊢
 rw [← hnR] at HR hlr ⊢
 have HNL := Lib.hid hnL
 have HNR := Lib.hid hnR
 clear hv hr hnL hnR
 go_enter Tryz.func53, Tryz.ntmps53
 go_upto_region 1 with (fail)
 have hx0 : Ext No W (W.alloc (.cells #[.slice av nL cv, .slice ar nR cr] 29)) := (Ext.refl _ _).alloc _
 have HB := Lib.hid (alloc_top (w := W) (o := (.cells #[.slice av nL cv, .slice ar nR cr] 29)) rfl)
 generalize (W.alloc (.cells #[.slice av nL cv, .slice ar nR cr] 29)) = V at *
 generalize W.heap.size = A at *
 have HX := Lib.hid hx0
 clear hx0
 have cB := cellOf HB.out
 by_cases hl : nR = nL
 ·have hlz : ((nR : Int) != (nL : Int)) = false := by simp; omega
  subst hl
  have HL := Lib.hid (HNL.out.symm.trans HNR.out)
  go_wp2_with fail
  clear cB hlz
  go_loopw [3, 4] (fun i _ wr => ∃ k : Nat, k ≤ nR ∧ i = .int .i64 k ∧ Hid (Ext No V wr) ∧ Hid (∀ n (h : n < Lv.length) (h2 : n < R.length), n < k → RankOk Lv[n].1 R[n].1)) (fun i _ _ => nR - (intOf i).toNat)
  case atStart => exact ⟨0, Nat.zero_le _, rfl, Lib.hid (Ext.refl _ _), Lib.hid (fun _ _ _ hj => absurd hj (Nat.not_lt_zero _))⟩
  obtain ⟨k, hk, rfl, hx, hall⟩ := hrel
  rename World => wr
  have HXR := Lib.hid (HX.out.transNo hx.out)
  have cB := cellOf (hx.out.blk HB.out no_no)
  by_cases hlt : k < nR
  ·have hlz2 : (k : Int) < (nR : Int) := by omega
   have hkL : k < Lv.length := by rw [← HNL.out]; exact hlt
   have hkR : k < R.length := by rw [← HNR.out]; exact hlt
   have HKK : Hid (Value.int .i64 ((k : Int) + 1) = .int .i64 ((k + 1 : Nat) : Int)) := Lib.hid (by rw [show ((k + 1 : Nat) : Int) = (k : Int) + 1 from by omega])
   have hV1 := HV.out.extNo HXR.out
   obtain ⟨b, off, cap', hsl, _, _, hcell⟩ := hV1.atS hkL
   rw [← HNL.out] at hsl
   simp only [Value.slice.injEq] at hsl
   obtain ⟨rfl, _, rfl⟩ := hsl
   obtain ⟨q0, q1⟩ := hcell k hkL
   have hok : WordsAt No wr Lv[k].2 Lv[k].1.words := hV1.ok _ (List.getElem_mem hkL)
   obtain ⟨s, hs⟩ : ∃ s, s = Lv[k].1 := ⟨_, rfl⟩
   obtain ⟨pv, hpv⟩ : ∃ pv, pv = Lv[k].2 := ⟨_, rfl⟩
   rw [← hs] at q0 hok
   rw [← hpv] at q1 hok
   obtain ⟨pa, pc, rfl⟩ := hok.slice
   have hR1 := HR.out.extNo HXR.out
   obtain ⟨br, or, kr, hre, _, _, hcr⟩ := hR1.atD hkR
   rw [← HNR.out] at hre
   simp only [Value.slice.injEq] at hre
   obtain ⟨rfl, -, rfl⟩ := hre
   have gr := hcr k hkR
   have hri : Ints No wr .i64 R[k].2 R[k].1 := hR1.ok _ (List.getElem_mem hkR)
   obtain ⟨l, hlq⟩ : ∃ l, l = R[k].1 := ⟨_, rfl⟩
   rw [← hlq] at hri
   obtain ⟨ra, rc, hrv⟩ := Row.slice hri
   rw [hrv] at gr hri
   have hiff := rankOk_iff (l := l) hok.lt
   have HNX : Hid (RankOk s l → ∀ n (h : n < Lv.length) (h2 : n < R.length), n < k + 1 → RankOk Lv[n].1 R[n].1) := Lib.hid (fun hc n hn hn2 hnk => by
    by_cases e : n = k
    ·subst e; rw [← hs, ← hlq]; exact hc
    exact hall.out n hn hn2 (by omega))
   have HNO : Hid (¬ RankOk s l → ¬ RankedP Lv R) := Lib.hid (fun hc h => hc (by rw [hs, hlq]; exact h.2 k hkL hkR))
   have HIF := Lib.hid hiff
   have HGR := Lib.hid gr
   have HRI := Lib.hid hri
   have HOK := Lib.hid hok
   have HQ0 := Lib.hid q0
   have HQ1 := Lib.hid q1
   have HBr := Lib.hid (hx.out.blk HB.out no_no)
   have hll := hri.2.1
   have hcl := memR_len s
   obtain ⟨cn, hcn⟩ : ∃ cn, cn = (memR s).length := ⟨_, rfl⟩
   rw [← hcn] at hcl
   have HCN := Lib.hid hcn
   clear hcell hcr hs hpv hlq hrv gr hri hok hV1 hR1 q0 q1 hcn hiff
   cases hvs : validB s with
   | false =>
    have HVS := Lib.hid hvs
    clear hvs
    go_upto_region 6 with (fail)
    clear cB
    refine wp_region_held_drew (S := (fun w' => Ext No wr w')) (by kernel_rfl) ?_ (fun hHeld => ?_)
    ·exact (Ext.refl _ _).drew
    have HE := Lib.hid (show Ext No wr wr.drew from (Ext.refl No _).drew)
    generalize wr.drew = v0 at *
    refine hHs [0, 1, 2, 3] ?_
    iterate 4
     refine hTn ?_ hHeld (fun w hSw => ?_) ?_
     rotate_left
     ·(have q0 := cellOf ((show Ext No wr _ from hSw).blk HBr.out no_no)); go_simp; (try with_reducible rfl)
     simp only [Act.put, nzA, nzB, nzC]
    refine hHe ?_
    refine hTk 4 ?_ hHeld (fun w hSw => ?_) ?_
    rotate_left
    ·(have x0 := (show Ext No wr _ from hSw).keep HQ0.out); (have x1 := (show Ext No wr _ from hSw).keep HQ1.out); go_simp; (try with_reducible rfl)
    simp only [Act.put, nzA, nzB, nzC]
    refine hHc 5 fun K hK => ?_
    (go_simp; (go_at_call 61); (refine (rvalid_any _ s _ ⟨_, rfl, HOK.out.extNo HE.out⟩).mono ?_); (rintro e7 v1 ⟨rfl, hyA⟩); (rw [HVS.out]); go_simp)
    refine hK.out _ _ ?_ ?_
    ·exact HE.out.transNo hyA
    clear hK K hHeld
    intro hHeld
    replace HE := Lib.hid (HE.out.transNo hyA)
    clear hyA
    try simp only [Act.put, nzA, nzB, nzC]
    refine hHs [6, 7] ?_
    iterate 2
     refine hTn ?_ hHeld (fun w hSw => ?_) ?_
     rotate_left
     ·go_simp; (try with_reducible rfl)
     simp only [Act.put, nzA, nzB, nzC]
    refine hHe ?_
    refine hHs [8, 9, 10, 11, 12, 13, 14, 15, 16, 17, 18, 19, 20, 21] ?_
    iterate 14
     refine hSn hHeld ?_
     simp only [Act.put, nzA, nzB, nzC]
    refine hHe ?_
    refine hTk 22 ?_ hHeld (fun w hSw => ?_) ?_
    rotate_left
    ·go_simp; (try with_reducible rfl)
    simp only [Act.put, nzA, nzB, nzC]
    refine wpAnyH_done (by kernel_rfl) ?_ _
    go_wp2_with fail
    go_ret
    exact ⟨false, rfl, ⟨fun e => (by cases e), fun h => absurd h (HNO.out (fun hc => by have := (HIF.out.1 hc).1; rw [HVS.out] at this; cases this))⟩, HXR.out.transNo HE.out⟩
   | true =>
    have HVS := Lib.hid hvs
    clear hvs
    by_cases hcl2 : l.length = cn
    ·have hclz : ((l.length : Int) != (cn : Int)) = false := by simp; omega
     have HCL := Lib.hid hcl2
     clear hcl2
     go_upto_region 6 with (fail)
     clear cB
     refine wp_region_held_drew (S := (fun w' => Ext No wr w')) (by kernel_rfl) ?_ (fun hHeld => ?_)
     ·exact (Ext.refl _ _).drew
     have HE := Lib.hid (show Ext No wr wr.drew from (Ext.refl No _).drew)
     generalize wr.drew = v0 at *
     refine hHs [0, 1, 2, 3] ?_
     iterate 4
      refine hTn ?_ hHeld (fun w hSw => ?_) ?_
      rotate_left
      ·(have q0 := cellOf ((show Ext No wr _ from hSw).blk HBr.out no_no)); go_simp; (try with_reducible rfl)
      simp only [Act.put, nzA, nzB, nzC]
     refine hHe ?_
     refine hTk 4 ?_ hHeld (fun w hSw => ?_) ?_
     rotate_left
     ·(have x0 := (show Ext No wr _ from hSw).keep HQ0.out); (have x1 := (show Ext No wr _ from hSw).keep HQ1.out); go_simp; (try with_reducible rfl)
     simp only [Act.put, nzA, nzB, nzC]
     refine hHc 5 fun K hK => ?_
     (go_simp; (go_at_call 61); (refine (rvalid_any _ s _ ⟨_, rfl, HOK.out.extNo HE.out⟩).mono ?_); (rintro e7 v1 ⟨rfl, hyA⟩); (rw [HVS.out]); go_simp)
     refine hK.out _ _ ?_ ?_
     ·exact HE.out.transNo hyA
     clear hK K hHeld
     intro hHeld
     replace HE := Lib.hid (HE.out.transNo hyA)
     clear hyA
     try simp only [Act.put, nzA, nzB, nzC]
     refine hHs [6, 7, 8, 9, 10, 11] ?_
     iterate 6
      refine hTn ?_ hHeld (fun w hSw => ?_) ?_
      rotate_left
      ·(have q0 := cellOf ((show Ext No wr _ from hSw).blk HBr.out no_no)); go_simp; (try with_reducible rfl)
      simp only [Act.put, nzA, nzB, nzC]
     refine hHe ?_
     refine hHs [12, 13, 14] ?_
     iterate 3
      refine hTn ?_ hHeld (fun w hSw => ?_) ?_
      rotate_left
      ·(have q0 := (show Ext No wr _ from hSw).keep HGR.out); go_simp; (try with_reducible rfl)
      simp only [Act.put, nzA, nzB, nzC]
     refine hHe ?_
     refine hHs [15, 16, 17] ?_
     iterate 3
      refine hTn ?_ hHeld (fun w hSw => ?_) ?_
      rotate_left
      ·(have q0 := cellOf ((show Ext No wr _ from hSw).blk HBr.out no_no)); go_simp; (try with_reducible rfl)
      simp only [Act.put, nzA, nzB, nzC]
     refine hHe ?_
     refine hTk 18 ?_ hHeld (fun w hSw => ?_) ?_
     rotate_left
     ·(have x0 := (show Ext No wr _ from hSw).keep HQ0.out); (have x1 := (show Ext No wr _ from hSw).keep HQ1.out); go_simp; (try with_reducible rfl)
     simp only [Act.put, nzA, nzB, nzC]
     refine hHc 19 fun K hK => ?_
     (go_simp; (go_at_call 22); (refine (rmemR_any No s _ _ (fun _ e => e.elim) (HOK.out.extNo HE.out)).mono ?_); (rintro e7 v2 ⟨a7, c7, rfl, -, hyA⟩); (rw [← HCN.out]); go_simp)
     refine hK.out _ _ ?_ ?_
     ·exact HE.out.transNo hyA
     clear hK K hHeld
     intro hHeld
     replace HE := Lib.hid (HE.out.transNo hyA)
     clear hyA
     try simp only [Act.put, nzA, nzB, nzC]
     refine hHs [20, 21, 22] ?_
     iterate 3
      refine hTn ?_ hHeld (fun w hSw => ?_) ?_
      rotate_left
      ·go_simp; (try with_reducible rfl)
      simp only [Act.put, nzA, nzB, nzC]
     refine hHe ?_
     refine wpAnyH_done (by kernel_rfl) ?_ _
     have HXv := Lib.hid (HXR.out.transNo HE.out)
     have HYv := Lib.hid (hx.out.transNo HE.out)
     have HGv := Lib.hid (HE.out.keep HGR.out)
     have HRv := Lib.hid (show Ints No v2 .i64 (.slice ra l.length rc) l from Row.extNo HRI.out HE.out)
     have HBv := Lib.hid (HE.out.blk HBr.out no_no)
     go_wp2_with fail
     go_loopw [4] (fun i wz => ∃ j : Nat, j ≤ l.length ∧ i = .int .i64 j ∧ Hid (Ext No v2 wz) ∧ Hid (∀ q (hq : q < l.length), q < j → ¬ RkBad l[q])) (fun i _ => l.length - (intOf i).toNat)
     case atStart => exact ⟨0, Nat.zero_le _, rfl, Lib.hid (Ext.refl _ _), Lib.hid (fun _ _ hj => absurd hj (Nat.not_lt_zero _))⟩
     obtain ⟨j, hj, rfl, hz, hok⟩ := hrel
     rename World => wz
     have cB := cellOf (hz.out.blk HBv.out no_no)
     have g0 := hz.out.keep HGv.out
     by_cases hltj : j < l.length
     ·have hjz : (j : Int) < (l.length : Int) := by omega
      have HJJ : Hid (Value.int .i64 ((j : Int) + 1) = .int .i64 ((j + 1 : Nat) : Int)) := Lib.hid (by rw [show ((j + 1 : Nat) : Int) = (j : Int) + 1 from by omega])
      obtain ⟨bm, om, km, hme, -, -, hcm⟩ := Ints.at (show Ints No wz .i64 (.slice ra l.length rc) l from Row.extNo HRv.out hz.out) hltj
      simp only [Value.slice.injEq] at hme
      obtain ⟨rfl, -, rfl⟩ := hme
      have q0 := hcm j hltj
      obtain ⟨r, hr⟩ : ∃ r, r = l[j] := ⟨_, rfl⟩
      rw [← hr] at q0
      have HRE := Lib.hid hr
      clear hcm hr
      go_wp2_with fail
      refine (rcounter_any r _).mono ?_
      rintro e8 w8 ⟨bb, rfl, hbb, hx8⟩
      have HBB := Lib.hid hbb
      have HX8 := Lib.hid (hz.out.transNo hx8)
      clear hbb hx8 cB g0 q0
      cases bb with
      | true =>
       go_wp2_with fail
       go_roundw
       case rel => exact ⟨j + 1, by omega, HJJ.out, HX8, Lib.hid (fun q hq hqj => by
        by_cases e : q = j
        ·subst e; rw [← HRE.out]; exact HBB.out.1 (by simp)
        exact hok.out q hq (by omega))⟩
       case measure => simp [intOf]; omega
      | false =>
       go_wp2_with fail
       go_ret
       exact ⟨false, rfl, ⟨fun e => (by cases e), fun h => absurd h (HNO.out (fun hc => by
        have h1 := (HIF.out.1 hc).2.2 j hltj
        rw [← HRE.out] at h1
        have := HBB.out.2 h1
        cases this))⟩, HXv.out.transNo HX8.out⟩
     have hgej : ¬ (j : Int) < (l.length : Int) := by omega
     go_wp2_with fail
     clear cB g0
     go_roundw
     case rel => exact ⟨k + 1, by omega, HKK.out, Lib.hid (HYv.out.transNo hz.out), Lib.hid (HNX.out (HIF.out.2 ⟨HVS.out, HCL.out.trans HCN.out, fun q hq => hok.out q hq (by omega)⟩))⟩
     case measure => simp [intOf]; omega
    have hclz : ((l.length : Int) != (cn : Int)) = true := by simp; omega
    have HCL := Lib.hid hcl2
    clear hcl2
    go_upto_region 6 with (fail)
    clear cB
    refine wp_region_held_drew (S := (fun w' => Ext No wr w')) (by kernel_rfl) ?_ (fun hHeld => ?_)
    ·exact (Ext.refl _ _).drew
    have HE := Lib.hid (show Ext No wr wr.drew from (Ext.refl No _).drew)
    generalize wr.drew = v0 at *
    refine hHs [0, 1, 2, 3] ?_
    iterate 4
     refine hTn ?_ hHeld (fun w hSw => ?_) ?_
     rotate_left
     ·(have q0 := cellOf ((show Ext No wr _ from hSw).blk HBr.out no_no)); go_simp; (try with_reducible rfl)
     simp only [Act.put, nzA, nzB, nzC]
    refine hHe ?_
    refine hTk 4 ?_ hHeld (fun w hSw => ?_) ?_
    rotate_left
    ·(have x0 := (show Ext No wr _ from hSw).keep HQ0.out); (have x1 := (show Ext No wr _ from hSw).keep HQ1.out); go_simp; (try with_reducible rfl)
    simp only [Act.put, nzA, nzB, nzC]
    refine hHc 5 fun K hK => ?_
    (go_simp; (go_at_call 61); (refine (rvalid_any _ s _ ⟨_, rfl, HOK.out.extNo HE.out⟩).mono ?_); (rintro e7 v1 ⟨rfl, hyA⟩); (rw [HVS.out]); go_simp)
    refine hK.out _ _ ?_ ?_
    ·exact HE.out.transNo hyA
    clear hK K hHeld
    intro hHeld
    replace HE := Lib.hid (HE.out.transNo hyA)
    clear hyA
    try simp only [Act.put, nzA, nzB, nzC]
    refine hHs [6, 7, 8, 9, 10, 11] ?_
    iterate 6
     refine hTn ?_ hHeld (fun w hSw => ?_) ?_
     rotate_left
     ·(have q0 := cellOf ((show Ext No wr _ from hSw).blk HBr.out no_no)); go_simp; (try with_reducible rfl)
     simp only [Act.put, nzA, nzB, nzC]
    refine hHe ?_
    refine hHs [12, 13, 14] ?_
    iterate 3
     refine hTn ?_ hHeld (fun w hSw => ?_) ?_
     rotate_left
     ·(have q0 := (show Ext No wr _ from hSw).keep HGR.out); go_simp; (try with_reducible rfl)
     simp only [Act.put, nzA, nzB, nzC]
    refine hHe ?_
    refine hHs [15, 16, 17] ?_
    iterate 3
     refine hTn ?_ hHeld (fun w hSw => ?_) ?_
     rotate_left
     ·(have q0 := cellOf ((show Ext No wr _ from hSw).blk HBr.out no_no)); go_simp; (try with_reducible rfl)
     simp only [Act.put, nzA, nzB, nzC]
    refine hHe ?_
    refine hTk 18 ?_ hHeld (fun w hSw => ?_) ?_
    rotate_left
    ·(have x0 := (show Ext No wr _ from hSw).keep HQ0.out); (have x1 := (show Ext No wr _ from hSw).keep HQ1.out); go_simp; (try with_reducible rfl)
    simp only [Act.put, nzA, nzB, nzC]
    refine hHc 19 fun K hK => ?_
    (go_simp; (go_at_call 22); (refine (rmemR_any No s _ _ (fun _ e => e.elim) (HOK.out.extNo HE.out)).mono ?_); (rintro e7 v2 ⟨a7, c7, rfl, -, hyA⟩); (rw [← HCN.out]); go_simp)
    refine hK.out _ _ ?_ ?_
    ·exact HE.out.transNo hyA
    clear hK K hHeld
    intro hHeld
    replace HE := Lib.hid (HE.out.transNo hyA)
    clear hyA
    try simp only [Act.put, nzA, nzB, nzC]
    refine hHs [20, 21, 22] ?_
    iterate 3
     refine hTn ?_ hHeld (fun w hSw => ?_) ?_
     rotate_left
     ·go_simp; (try with_reducible rfl)
     simp only [Act.put, nzA, nzB, nzC]
    refine hHe ?_
    refine wpAnyH_done (by kernel_rfl) ?_ _
    go_wp2_with fail
    go_ret
    exact ⟨false, rfl, ⟨fun e => (by cases e), fun h => absurd h (HNO.out (fun hc => HCL.out ((HIF.out.1 hc).2.1.trans HCN.out.symm)))⟩, HXR.out.transNo HE.out⟩
  have hge : ¬ (k : Int) < (nR : Int) := by omega
  go_wp2_with fail
  go_ret
  exact ⟨true, rfl, ⟨fun _ => ⟨HL.out, fun n h h2 => hall.out n h h2 (by rw [← HNR.out] at h2; omega)⟩, fun _ => rfl⟩, HXR.out⟩
 have hlz : ((nR : Int) != (nL : Int)) = true := by simp; omega
 go_wp2_with fail
 go_ret
 exact ⟨false, rfl, ⟨fun e => (by cases e), fun h => absurd (HNR.out.trans (h.1.symm.trans HNL.out.symm)) hl⟩, HX.out⟩
