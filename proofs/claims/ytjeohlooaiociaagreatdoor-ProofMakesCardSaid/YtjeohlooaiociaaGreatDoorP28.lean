
import Derived.Test.YtjeohlooaiociaaGreatDoorP27
set_option linter.unusedVariables false
set_option linter.unusedSimpArgs false
namespace Go.Proofs.YtjeohlooaiociaaGreatDoor
open Go Go.RowKit
set_option maxRecDepth 100000 in
set_option maxHeartbeats 2000000 in
theorem solveP_inv (x : Int) (vd vt vb : Value) (Ld : LD) (Lt : LT) (Lb : LS) (W : World) (h : YAt No W vd vt vb Ld Lt Lb) (hn : ¬ VS x Ld Lt Lb) :
  Calls Tryz.prog 19 #[.agg #[.int .i64 x, vd, vt, vb]] W fun e w' => e = .returned (.tuple #[.slice none 0 0, .int .i64 0, .int .i64 1]) ∧ Ext No W w' := by
 have H := Lib.hid h
 obtain ⟨ad, cd, rfl⟩ := h.d.slice
 obtain ⟨at1, ct, rfl⟩ := h.t.slice
 obtain ⟨ab, cb, rfl⟩ := h.b.slice
 clear h
 go_enter Tryz.func19, Tryz.ntmps19
 go_wp2_with fail
 have hx0 : Ext No W (W.alloc (.cells #[.int .i64 x, .slice ad Ld.length cd, .slice at1 Lt.length ct, .slice ab Lb.length cb] 27)) := (Ext.refl _ _).alloc _
 refine (sysValid_any x _ _ _ Ld Lt Lb _ (H.out.extNo hx0)).mono ?_
 rintro e1 w1 ⟨b1, rfl, hb1, hx1⟩
 obtain rfl := tells_f hb1 hn
 have hx := hx0.transNo hx1
 clear hb1 hx0 hx1
 go_wp2_with fail
 refine ret_ex rfl ?_
 simp [results, Tryz.results19, go_sem]
 exact hx
theorem rIsAboveL_any (S : SysD) (vd vt vb vv : Value) (Lv : LS) (W : World) (h : SysAt No W vd vt vb S) (hv : LAt kS No W vv Lv) :
  Calls Tryz.prog 54 #[.agg #[.int .i64 (S.w : Int), vd, vt, vb], vv] W (Tells (∃ vs, AboveL S Lv vs) W) := by
 by_cases hE : valE (S.w : Int) S.deps.length Lv = 0
 ·obtain ⟨hl, hf⟩ := valE_zero hE
  obtain ⟨vs, hm, hlt⟩ := valsP_of hv hf
  have hl2 : vs.length = S.deps.length := by have := congrArg List.length hm; simp at this; omega
  refine (rIsAbove_any S vd vt vb vv vs W h (hv.setsV hm h.ok.w hlt) hl2).mono ?_
  rintro e w' ⟨b, rfl, hb, hx⟩
  exact ⟨b, rfl, hb.trans ⟨fun h1 => ⟨vs, hm, hl2, hlt, h1⟩, fun ⟨us, k⟩ => by
   obtain rfl : us = vs := map_setN_inj k.2.2.1 hlt (k.1.symm.trans hm)
   exact k.2.2.2⟩, hx⟩
 refine (rIsAbove_val S vd vt vb vv Lv W h hv hE).mono ?_
 rintro e w' ⟨rfl, hx⟩
 exact ⟨false, rfl, ⟨fun h => (by cases h), fun ⟨vs, k⟩ => absurd (k.val h.ok.w) hE⟩, hx⟩
set_option maxRecDepth 100000 in
set_option maxHeartbeats 8000000 in
theorem rcheck_any (S : SysD) (vd vt vb vv vr : Value) (Lv : LS) (R : LD) (W : World) (h : SysAt No W vd vt vb S) (hv : LAt kS No W vv Lv) (hr : LAt kD No W vr R) :
  Calls Tryz.prog 16 #[.agg #[.int .i64 (S.w : Int), vd, vt, vb], .agg #[vv, vr]] W (ChkPost (AccP S Lv R) W) := by
 have H := Lib.hid h
 have HV := Lib.hid hv
 have HR := Lib.hid hr
 have HOK := Lib.hid h.ok
 have hnn := h.ok.n2
 have hww := h.ok.w
 obtain ⟨ad, cd, at1, ct, ab, cb, rfl, rfl, rfl⟩ := h.slices
 obtain ⟨av, cv, rfl⟩ := hv.slice
 obtain ⟨ar, cr, rfl⟩ := hr.slice
 obtain ⟨nL, hnL⟩ : ∃ nL, nL = Lv.length := ⟨_, rfl⟩
 obtain ⟨nR, hnR⟩ : ∃ nR, nR = R.length := ⟨_, rfl⟩
 rw [← hnL] at HV ⊢
 rw [← hnR] at HR ⊢
 have HNL := Lib.hid hnL
 have HNR := Lib.hid hnR
 clear h hv hr hnL hnR
 go_enter Tryz.func16, Tryz.ntmps16
 go_upto_region 1 with (fail)
 have hx0 : Ext No W ((W.alloc (.cells #[.int .i64 (S.w : Int), .slice ad S.deps.length cd, .slice at1 S.deps.length ct, .slice ab S.deps.length cb] 27)).alloc (.cells #[.slice av nL cv, .slice ar nR cr] 29)) := ((Ext.refl _ _).alloc _).alloc _
 have HA := Lib.hid (show ((W.alloc (.cells #[.int .i64 (S.w : Int), .slice ad S.deps.length cd, .slice at1 S.deps.length ct, .slice ab S.deps.length cb] 27)).alloc (.cells #[.slice av nL cv, .slice ar nR cr] 29)).heap[W.heap.size]? = some (.cells #[.int .i64 (S.w : Int), .slice ad S.deps.length cd, .slice at1 S.deps.length ct, .slice ab S.deps.length cb] 27 (0, 0)) from alloc_under (alloc_top rfl))
 have HB := Lib.hid (show ((W.alloc (.cells #[.int .i64 (S.w : Int), .slice ad S.deps.length cd, .slice at1 S.deps.length ct, .slice ab S.deps.length cb] 27)).alloc (.cells #[.slice av nL cv, .slice ar nR cr] 29)).heap[W.heap.size + 1]? = some (.cells #[.slice av nL cv, .slice ar nR cr] 29 (0, 0)) from alloc_top (by simp))
 generalize ((W.alloc (.cells #[.int .i64 (S.w : Int), .slice ad S.deps.length cd, .slice at1 S.deps.length ct, .slice ab S.deps.length cb] 27)).alloc (.cells #[.slice av nL cv, .slice ar nR cr] 29)) = V at *
 generalize W.heap.size = A at *
 have HX := Lib.hid hx0
 clear hx0
 have cA := cellOf HA.out
 go_wp2_with fail
 clear cA
 refine (rvalidSys_yes S _ _ _ V (H.out.extNo HX.out)).mono ?_
 rintro e1 w1 ⟨rfl, hx1⟩
 have HX1 := Lib.hid (HX.out.transNo hx1)
 have HA1 := Lib.hid (hx1.blk HA.out no_no)
 have HB1 := Lib.hid (hx1.blk HB.out no_no)
 clear hx1 HX HA HB
 have cB := cellOf HB1.out
 go_wp2_with fail
 clear cB
 refine (rranked_any _ _ Lv R w1 (HV.out.extNo HX1.out) (HR.out.extNo HX1.out)).mono ?_
 rintro e2 w2 ⟨b2, rfl, hb2, hx2⟩
 have HX2 := Lib.hid (HX1.out.transNo hx2)
 have HA2 := Lib.hid (hx2.blk HA1.out no_no)
 have HB2 := Lib.hid (hx2.blk HB1.out no_no)
 have HRK := Lib.hid hb2
 clear hx2 hb2 HX1 HA1 HB1
 cases b2 with
 | false =>
  go_wp2_with fail
  go_ret
  exact ⟨15, rfl, .inr ⟨fun h => by have := HRK.out.2 h.1; simp at this, rfl⟩, HX2.out⟩
 | true =>
  have HRK2 := Lib.hid (HRK.out.1 (by simp))
  clear HRK
  have cA := cellOf HA2.out
  have cB := cellOf HB2.out
  go_wp2_with fail
  clear cA cB
  refine (rIsAboveL_any S _ _ _ _ Lv w2 (H.out.extNo HX2.out) (HV.out.extNo HX2.out)).mono ?_
  rintro e3 w3 ⟨b3, rfl, hb3, hx3⟩
  have HX3 := Lib.hid (HX2.out.transNo hx3)
  have HA3 := Lib.hid (hx3.blk HA2.out no_no)
  have HB3 := Lib.hid (hx3.blk HB2.out no_no)
  have HAB := Lib.hid hb3
  clear hx3 hb3 HX2 HA2 HB2
  cases b3 with
  | false =>
   go_wp2_with fail
   go_ret
   exact ⟨15, rfl, .inr ⟨fun h => by
    obtain ⟨vs, ha, _⟩ := h.2
    have := HAB.out.2 ⟨vs, ha⟩; simp at this, rfl⟩, HX3.out⟩
  | true =>
   obtain ⟨vs, hab⟩ := HAB.out.1 (by simp)
   have HAV := Lib.hid hab
   have HPR := Lib.hid (show PrfAt No W S (.slice av nL cv) (.slice ar nR cr) vs R from prf_of hww HV.out HR.out hab HRK2.out)
   have hNL : nL = vs.length := by rw [HNL.out]; have := congrArg List.length hab.1; simpa using this
   have hNS : nL = S.deps.length := by rw [hNL]; exact hab.2.1
   have HNS := Lib.hid hNS
   have HNV := Lib.hid hNL
   have hnL : nL ≤ 256 := by omega
   clear HAB hab hNL hNS
   go_wp2_with fail
   go_loopw [5, 6, 7] (fun i _ _ wr => ∃ k : Nat, k ≤ nL ∧ i = .int .i64 k ∧ Hid (Ext No w3 wr) ∧ Hid (∀ n, n < k → DerP S vs R n)) (fun i _ _ _ => nL - (intOf i).toNat)
   case atStart => exact ⟨0, Nat.zero_le _, rfl, Lib.hid (Ext.refl _ _), Lib.hid (fun _ hj => absurd hj (Nat.not_lt_zero _))⟩
   obtain ⟨k, hk, rfl, hx, hall⟩ := hrel
   rename World => wr
   have HXR := Lib.hid (HX3.out.transNo hx.out)
   have cB := cellOf (hx.out.blk HB3.out no_no)
   by_cases hlt : k < nL
   ·have hlz : (k : Int) < (nL : Int) := by omega
    have HKK : Hid (Value.int .i64 ((k : Int) + 1) = .int .i64 ((k + 1 : Nat) : Int)) := Lib.hid (by rw [show ((k + 1 : Nat) : Int) = (k : Int) + 1 from by omega])
    have hkS : k < S.deps.length := by rw [← HNS.out]; exact hlt
    obtain ⟨b0, o0, k0, a0, c0, hve, ⟨g0, g1⟩, hset⟩ := (HPR.out.extNo HXR.out).vals.cells (i := k) (by rw [← HNV.out]; exact hlt)
    rw [← HNV.out] at hve
    simp only [Value.slice.injEq] at hve
    obtain ⟨rfl, -, rfl⟩ := hve
    go_wp2_with fail
    clear cB g0 g1
    refine (rmemL_any No S.w (rowD vs k) _ _ (fun _ e => e.elim) hset.out).mono ?_
    rintro e4 w4 ⟨a4, c4, rfl, hrow, hx4⟩
    obtain ⟨ms, hms⟩ : ∃ ms, ms = rmT (rowD vs k) S.w := ⟨_, rfl⟩
    rw [← hms] at hrow ⊢
    have HMS := Lib.hid (show memD S vs k = ms from hms.symm)
    have hml : ms.length ≤ 256 := by rw [hms]; exact memD_len hww vs k
    have HY4 := Lib.hid (hx.out.transNo hx4)
    have HROW := Lib.hid hrow.out
    have HL3 := Lib.hid (show (rkD R k).length = ms.length from by rw [← HMS.out]; exact HPR.out.l3 k hkS)
    clear hms hrow hx4 hset HXR hx
    go_wp2_with fail
    go_loopw [7] (fun q wz => ∃ j : Nat, j ≤ ms.length ∧ q = .int .i64 j ∧ Hid (Ext No w4 wz) ∧ Hid (∀ p (h : p < ms.length) (h2 : p < (rkD R k).length), p < j → CauseP S vs R k ms[p] (rkD R k)[p])) (fun q _ => ms.length - (intOf q).toNat)
    case atStart => exact ⟨0, Nat.zero_le _, rfl, Lib.hid (Ext.refl _ _), Lib.hid (fun _ _ _ hj => absurd hj (Nat.not_lt_zero _))⟩
    obtain ⟨j, hj, rfl, hz, hok⟩ := hrel
    rename World => wz
    by_cases hltj : j < ms.length
    ·have hjz : (j : Int) < (ms.length : Int) := by omega
     have HJJ : Hid (Value.int .i64 ((j : Int) + 1) = .int .i64 ((j + 1 : Nat) : Int)) := Lib.hid (by rw [show ((j + 1 : Nat) : Int) = (j : Int) + 1 from by omega])
     have HYZ := Lib.hid (HY4.out.transNo hz.out)
     have HXZ := Lib.hid (HX3.out.transNo HYZ.out)
     have HAz := Lib.hid (HYZ.out.blk HA3.out no_no)
     have HBz := Lib.hid (HYZ.out.blk HB3.out no_no)
     obtain ⟨bm, om, km, hme, -, -, hcm⟩ := Ints.at (show Ints No wz .i64 (.slice a4 ms.length c4) ms from Row.extNo HROW.out hz.out) hltj
     simp only [Value.slice.injEq] at hme
     obtain ⟨rfl, -, rfl⟩ := hme
     have q0 := hcm j hltj
     obtain ⟨u, hu⟩ : ∃ u, u = ms[j] := ⟨_, rfl⟩
     rw [← hu] at q0
     have HU := Lib.hid hu
     have HQ0 := Lib.hid q0
     have hjr : j < (rkD R k).length := by rw [HL3.out]; exact hltj
     obtain ⟨z, hzz⟩ : ∃ z, z = (rkD R k)[j] := ⟨_, rfl⟩
     have HZ := Lib.hid hzz
     have HRV := Lib.hid (show RankV S vs R k u z from ⟨j, by rw [HMS.out]; exact hltj, hjr, by simp only [HMS.out]; exact hu.symm, hzz⟩)
     clear hcm hu q0 hzz
     go_upto_region 12 with (fail)
     refine wp_region_held_drew (S := (fun w' => Ext No wz w')) (by kernel_rfl) ?_ (fun hHeld => ?_)
     ·exact (Ext.refl _ _).drew
     have HE := Lib.hid (show Ext No wz wz.drew from (Ext.refl No _).drew)
     generalize wz.drew = v0 at *
     refine hTk 0 ?_ hHeld (fun w hSw => ?_) ?_
     rotate_left
     ·(have x0 := cellOf ((show Ext No wz _ from hSw).blk HAz.out no_no)); go_simp; (try with_reducible rfl)
     simp only [Act.put, nzA, nzB, nzC]
     refine hHs [1, 2, 3, 4, 5] ?_
     iterate 5
      refine hTn ?_ hHeld (fun w hSw => ?_) ?_
      rotate_left
      ·(have q0 := cellOf ((show Ext No wz _ from hSw).blk HBz.out no_no)); go_simp; (try with_reducible rfl)
      simp only [Act.put, nzA, nzB, nzC]
     refine hHe ?_
     refine hTk 6 ?_ hHeld (fun w hSw => ?_) ?_
     rotate_left
     ·(have y0 := (show Ext No wz _ from hSw).keep HQ0.out); go_simp; (try with_reducible rfl)
     simp only [Act.put, nzA, nzB, nzC]
     refine hHc 7 fun K hK => ?_
     (go_simp; (go_at_call 55); (refine (rderived_any S _ _ _ _ _ vs R k u z _ (H.out.extNo (HXZ.out.transNo HE.out)) (HPR.out.extNo (HXZ.out.transNo HE.out)) hkS HRV.out).mono ?_); (rintro e7 v1 ⟨bc, rfl, hbc, hyA⟩); go_simp)
     refine hK.out _ _ ?_ ?_
     ·exact HE.out.transNo hyA
     clear hK K hHeld
     intro hHeld
     replace HE := Lib.hid (HE.out.transNo hyA)
     have HBC := Lib.hid hbc
     clear hyA hbc
     try simp only [Act.put, nzA, nzB, nzC]
     refine hTk 8 ?_ hHeld (fun w hSw => ?_) ?_
     rotate_left
     ·go_simp; (try with_reducible rfl)
     simp only [Act.put, nzA, nzB, nzC]
     refine wpAnyH_done (by kernel_rfl) ?_ _
     cases bc with
     | true =>
      go_wp2_with fail
      go_roundw
      case rel => exact ⟨j + 1, by omega, HJJ.out, Lib.hid (hz.out.transNo HE.out), Lib.hid (fun p hp hp2 hpj => by
       by_cases e : p = j
       ·subst e
        rw [← HU.out, ← HZ.out]
        exact HBC.out.1 (by simp)
       exact hok.out p hp hp2 (by omega))⟩
      case measure => simp [intOf]; omega
     | false =>
      go_wp2_with fail
      go_ret
      exact ⟨15, rfl, .inr ⟨fun h => by
       obtain ⟨_, us, hab, hd⟩ := h
       obtain rfl := AboveL.uniq hab HAV.out
       have h5 := hd k hkS j (by rw [HMS.out]; exact hltj) hjr
       simp only [HMS.out] at h5
       rw [← HU.out, ← HZ.out] at h5
       have := HBC.out.2 h5
       simp at this, rfl⟩, HXZ.out.transNo HE.out⟩
    have hgej : ¬ (j : Int) < (ms.length : Int) := by omega
    go_wp2_with fail
    go_roundw
    case rel => exact ⟨k + 1, by omega, HKK.out, Lib.hid (HY4.out.transNo hz.out), Lib.hid (fun n hn => by
     by_cases e : n = k
     ·subst e
      intro p hp hp2
      simp only [HMS.out] at hp ⊢
      exact hok.out p hp hp2 (by omega)
     exact hall.out n (by omega))⟩
    case measure => simp [intOf]; omega
   have hge : ¬ (k : Int) < (nL : Int) := by omega
   go_wp2_with fail
   go_ret
   exact ⟨0, rfl, .inl ⟨⟨HRK2.out, vs, HAV.out, fun n hn => hall.out n (by rw [← HNS.out] at hn; omega)⟩, rfl⟩, HXR.out⟩
def SysR (M : Nat → Prop) (W : World) (x : Int) (vd vt vb : Value) : Option SysD → Prop
 | some S => x = (S.w : Int) ∧ SysAt M W vd vt vb S
 | none => ∃ (Ld : LD) (Lt : LT) (Lb : LS), YAt M W vd vt vb Ld Lt Lb ∧ ¬ VS x Ld Lt Lb
theorem SysR.ex {M : Nat → Prop} {W : World} {x : Int} {vd vt vb : Value} {Ld : LD} {Lt : LT} {Lb : LS} (h : YAt M W vd vt vb Ld Lt Lb) : ∃ o, SysR M W x vd vt vb o := by
 by_cases hv : VS x Ld Lt Lb
 ·obtain ⟨S, hS1, hS2, hS3⟩ := hv.sys h
  exact ⟨some S, hS1, hS2⟩
 exact ⟨none, Ld, Lt, Lb, h, hv⟩
theorem SysR.extNo {M : Nat → Prop} {W W' : World} {x : Int} {vd vt vb : Value} : ∀ {o : Option SysD}, SysR M W x vd vt vb o → Ext No W W' → SysR M W' x vd vt vb o
 | some _, ⟨h1, h2⟩, hx => ⟨h1, h2.extNo hx⟩
 | none, ⟨Ld, Lt, Lb, h1, h2⟩, hx => ⟨Ld, Lt, Lb, h1.extNo hx, h2⟩
theorem SysR.slices {M : Nat → Prop} {W : World} {x : Int} {vd vt vb : Value} : ∀ {o : Option SysD}, SysR M W x vd vt vb o → ∃ ad nd cd at1 nt ct ab nb cb, vd = .slice ad nd cd ∧ vt = .slice at1 nt ct ∧ vb = .slice ab nb cb
 | some _, ⟨_, h2⟩ => by
  obtain ⟨ad, cd, at1, ct, ab, cb, rfl, rfl, rfl⟩ := h2.slices
  exact ⟨_, _, _, _, _, _, _, _, _, rfl, rfl, rfl⟩
 | none, ⟨Ld, Lt, Lb, h1, h2⟩ => by
  obtain ⟨ad, cd, rfl⟩ := h1.d.slice
  obtain ⟨at1, ct, rfl⟩ := h1.t.slice
  obtain ⟨ab, cb, rfl⟩ := h1.b.slice
  exact ⟨_, _, _, _, _, _, _, _, _, rfl, rfl, rfl⟩
def ChkZ (o : Option SysD) (Lv : LS) (R : LD) (z : Int) : Prop := match o with
 | some S => AccP S Lv R ∧ z = 0 ∨ ¬ AccP S Lv R ∧ z = 15
 | none => z = 1
theorem ChkZ.uniq {Lv : LS} {R : LD} {z z' : Int} : ∀ {o : Option SysD}, ChkZ o Lv R z → ChkZ o Lv R z' → z = z'
 | some _, h, k => by
  rcases h with h | h
  ·rcases k with k | k
   ·rw [h.2, k.2]
   exact absurd h.1 k.1
  rcases k with k | k
  ·exact absurd k.1 h.1
  rw [h.2, k.2]
 | none, h, k => Eq.trans h (Eq.symm k)
def ChkRP (o : Option SysD) (Lv : LS) (R : LD) (W : World) (e : Ending) (w' : World) : Prop := ∃ z : Int, e = .returned (.int .i64 z) ∧ ChkZ o Lv R z ∧ Ext No W w'
def ErrZ : Option SysD → Int
 | some _ => 0
 | none => 1
def MkRP (o : Option SysD) (W : World) (e : Ending) (w' : World) : Prop := ∃ (a a2 : Option Addr) (n n2 c c2 : Nat), e = .returned (.tuple #[.agg #[.slice a n c, .slice a2 n2 c2], .int .i64 (ErrZ o)]) ∧ Ext No W w'
set_option maxRecDepth 100000 in
theorem pcheck_inv (x : Int) (vd vt vb vv vr : Value) (Ld : LD) (Lt : LT) (Lb : LS) (av ar : Option Addr) (nL cv nR cr : Nat) (W : World) (hv : vv = .slice av nL cv) (hr : vr = .slice ar nR cr) (h : YAt No W vd vt vb Ld Lt Lb) (hn : ¬ VS x Ld Lt Lb) :
  Calls Tryz.prog 15 #[.agg #[.int .i64 x, vd, vt, vb], .agg #[vv, vr]] W fun e w' => e = .returned (.int .i64 1) ∧ Ext No W w' := by
 subst hv hr
 have H := Lib.hid h
 have HN := Lib.hid hn
 obtain ⟨ad, cd, rfl⟩ := h.d.slice
 obtain ⟨at1, ct, rfl⟩ := h.t.slice
 obtain ⟨ab, cb, rfl⟩ := h.b.slice
 clear h hn
 go_enter Tryz.func15, Tryz.ntmps15
 go_upto_region 1 with (fail)
 have hx0 : Ext No W ((W.alloc (.cells #[.int .i64 x, .slice ad Ld.length cd, .slice at1 Lt.length ct, .slice ab Lb.length cb] 27)).alloc (.cells #[.slice av nL cv, .slice ar nR cr] 29)) := ((Ext.refl _ _).alloc _).alloc _
 have HA := Lib.hid (show ((W.alloc (.cells #[.int .i64 x, .slice ad Ld.length cd, .slice at1 Lt.length ct, .slice ab Lb.length cb] 27)).alloc (.cells #[.slice av nL cv, .slice ar nR cr] 29)).heap[W.heap.size]? = some (.cells #[.int .i64 x, .slice ad Ld.length cd, .slice at1 Lt.length ct, .slice ab Lb.length cb] 27 (0, 0)) from alloc_under (alloc_top rfl))
 generalize ((W.alloc (.cells #[.int .i64 x, .slice ad Ld.length cd, .slice at1 Lt.length ct, .slice ab Lb.length cb] 27)).alloc (.cells #[.slice av nL cv, .slice ar nR cr] 29)) = V at *
 generalize W.heap.size = A at *
 have HX := Lib.hid hx0
 clear hx0
 have cA := cellOf HA.out
 go_wp2_with fail
 clear cA
 refine (sysValid_any x _ _ _ Ld Lt Lb V (H.out.extNo HX.out)).mono ?_
 rintro e1 w1 ⟨b, rfl, hb, hx1⟩
 obtain rfl : b = false := by
  cases b with
  | false => rfl
  | true => exact absurd (hb.1 rfl) HN.out
 go_wp2_with fail
 go_ret
 exact ⟨rfl, HX.out.transNo hx1⟩
set_option maxRecDepth 100000 in
theorem rcheck_inv (x : Int) (vd vt vb vv vr : Value) (Ld : LD) (Lt : LT) (Lb : LS) (av ar : Option Addr) (nL cv nR cr : Nat) (W : World) (hv : vv = .slice av nL cv) (hr : vr = .slice ar nR cr) (h : YAt No W vd vt vb Ld Lt Lb) (hn : ¬ VS x Ld Lt Lb) :
  Calls Tryz.prog 16 #[.agg #[.int .i64 x, vd, vt, vb], .agg #[vv, vr]] W fun e w' => e = .returned (.int .i64 1) ∧ Ext No W w' := by
 subst hv hr
 have H := Lib.hid h
 have HN := Lib.hid hn
 obtain ⟨ad, cd, rfl⟩ := h.d.slice
 obtain ⟨at1, ct, rfl⟩ := h.t.slice
 obtain ⟨ab, cb, rfl⟩ := h.b.slice
 clear h hn
 go_enter Tryz.func16, Tryz.ntmps16
 go_upto_region 1 with (fail)
 have hx0 : Ext No W ((W.alloc (.cells #[.int .i64 x, .slice ad Ld.length cd, .slice at1 Lt.length ct, .slice ab Lb.length cb] 27)).alloc (.cells #[.slice av nL cv, .slice ar nR cr] 29)) := ((Ext.refl _ _).alloc _).alloc _
 have HA := Lib.hid (show ((W.alloc (.cells #[.int .i64 x, .slice ad Ld.length cd, .slice at1 Lt.length ct, .slice ab Lb.length cb] 27)).alloc (.cells #[.slice av nL cv, .slice ar nR cr] 29)).heap[W.heap.size]? = some (.cells #[.int .i64 x, .slice ad Ld.length cd, .slice at1 Lt.length ct, .slice ab Lb.length cb] 27 (0, 0)) from alloc_under (alloc_top rfl))
 generalize ((W.alloc (.cells #[.int .i64 x, .slice ad Ld.length cd, .slice at1 Lt.length ct, .slice ab Lb.length cb] 27)).alloc (.cells #[.slice av nL cv, .slice ar nR cr] 29)) = V at *
 generalize W.heap.size = A at *
 have HX := Lib.hid hx0
 clear hx0
 have cA := cellOf HA.out
 go_wp2_with fail
 clear cA
 refine (rvalidSys_any x _ _ _ Ld Lt Lb V (H.out.extNo HX.out)).mono ?_
 rintro e1 w1 ⟨b, rfl, hb, hx1⟩
 obtain rfl : b = false := by
  cases b with
  | false => rfl
  | true => exact absurd (hb.1 rfl) HN.out
 go_wp2_with fail
 go_ret
 exact ⟨rfl, HX.out.transNo hx1⟩
set_option maxRecDepth 100000 in
theorem pmake_inv (x : Int) (vd vt vb : Value) (Ld : LD) (Lt : LT) (Lb : LS) (W : World) (h : YAt No W vd vt vb Ld Lt Lb) (hn : ¬ VS x Ld Lt Lb) :
  Calls Tryz.prog 10 #[.agg #[.int .i64 x, vd, vt, vb]] W (MkRP none W) := by
 have H := Lib.hid h
 have HN := Lib.hid hn
 obtain ⟨ad, cd, rfl⟩ := h.d.slice
 obtain ⟨at1, ct, rfl⟩ := h.t.slice
 obtain ⟨ab, cb, rfl⟩ := h.b.slice
 clear h hn
 go_enter Tryz.func10, Tryz.ntmps10
 go_upto_region 1 with (fail)
 have hx0 : Ext No W ((W.alloc (.cells #[.int .i64 x, .slice ad Ld.length cd, .slice at1 Lt.length ct, .slice ab Lb.length cb] 27)).alloc (.cells #[.slice none 0 0, .slice none 0 0] 29)) := ((Ext.refl _ _).alloc _).alloc _
 have HA := Lib.hid (show ((W.alloc (.cells #[.int .i64 x, .slice ad Ld.length cd, .slice at1 Lt.length ct, .slice ab Lb.length cb] 27)).alloc (.cells #[.slice none 0 0, .slice none 0 0] 29)).heap[W.heap.size]? = some (.cells #[.int .i64 x, .slice ad Ld.length cd, .slice at1 Lt.length ct, .slice ab Lb.length cb] 27 (0, 0)) from alloc_under (alloc_top rfl))
 have HC := Lib.hid (show ((W.alloc (.cells #[.int .i64 x, .slice ad Ld.length cd, .slice at1 Lt.length ct, .slice ab Lb.length cb] 27)).alloc (.cells #[.slice none 0 0, .slice none 0 0] 29)).heap[W.heap.size + 1]? = some (.cells #[.slice none 0 0, .slice none 0 0] 29 (0, 0)) from alloc_top (by simp))
 generalize ((W.alloc (.cells #[.int .i64 x, .slice ad Ld.length cd, .slice at1 Lt.length ct, .slice ab Lb.length cb] 27)).alloc (.cells #[.slice none 0 0, .slice none 0 0] 29)) = V at *
 have HX := Lib.hid hx0
 clear hx0
 have cA := cellOf HA.out
 go_wp2_with fail
 clear cA
 refine (solveP_inv x _ _ _ Ld Lt Lb V (H.out.extNo HX.out) HN.out).mono ?_
 rintro e1 w1 ⟨rfl, hx1⟩
 have hC1 := hx1.blk HC.out no_no
 have cC := cellOf hC1
 have fC := freeOf hC1
 have hE := set2p24 w1 (W.heap.size + 1) (.slice none 0 0) (.slice none 0 0)
 have hbF := fin2p24 hC1 (.slice none 0 0) (.slice none 0 0)
 have HXF := Lib.hid (show Ext No W ((w1.setCell ⟨W.heap.size + 1, 0, none⟩ (.slice none 0 0)).setCell ⟨W.heap.size + 1, 1, none⟩ (.slice none 0 0)) from (HX.out.transNo hx1).trans2 hE (fun i hi e => by unfold At at e; omega))
 go_wp2_with fail
 clear cC fC
 generalize ((w1.setCell ⟨W.heap.size + 1, 0, none⟩ (.slice none 0 0)).setCell ⟨W.heap.size + 1, 1, none⟩ (.slice none 0 0)) = WF at *
 have cF := cellOf hbF
 refine ret_ex rfl ?_
 simp [results, Tryz.results10, go_sem, cF]
 exact ⟨none, none, 0, 0, 0, 0, rfl, HXF.out⟩
set_option maxRecDepth 100000 in
theorem rmake_inv (x : Int) (vd vt vb : Value) (Ld : LD) (Lt : LT) (Lb : LS) (W : World) (h : YAt No W vd vt vb Ld Lt Lb) (hn : ¬ VS x Ld Lt Lb) :
  Calls Tryz.prog 11 #[.agg #[.int .i64 x, vd, vt, vb]] W (MkRP none W) := by
 have H := Lib.hid h
 have HN := Lib.hid hn
 obtain ⟨ad, cd, rfl⟩ := h.d.slice
 obtain ⟨at1, ct, rfl⟩ := h.t.slice
 obtain ⟨ab, cb, rfl⟩ := h.b.slice
 clear h hn
 go_enter Tryz.func11, Tryz.ntmps11
 go_upto_region 1 with (fail)
 have hx0 : Ext No W ((W.alloc (.cells #[.int .i64 x, .slice ad Ld.length cd, .slice at1 Lt.length ct, .slice ab Lb.length cb] 27)).alloc (.cells #[.slice none 0 0, .slice none 0 0] 29)) := ((Ext.refl _ _).alloc _).alloc _
 have HA := Lib.hid (show ((W.alloc (.cells #[.int .i64 x, .slice ad Ld.length cd, .slice at1 Lt.length ct, .slice ab Lb.length cb] 27)).alloc (.cells #[.slice none 0 0, .slice none 0 0] 29)).heap[W.heap.size]? = some (.cells #[.int .i64 x, .slice ad Ld.length cd, .slice at1 Lt.length ct, .slice ab Lb.length cb] 27 (0, 0)) from alloc_under (alloc_top rfl))
 have HC := Lib.hid (show ((W.alloc (.cells #[.int .i64 x, .slice ad Ld.length cd, .slice at1 Lt.length ct, .slice ab Lb.length cb] 27)).alloc (.cells #[.slice none 0 0, .slice none 0 0] 29)).heap[W.heap.size + 1]? = some (.cells #[.slice none 0 0, .slice none 0 0] 29 (0, 0)) from alloc_top (by simp))
 generalize ((W.alloc (.cells #[.int .i64 x, .slice ad Ld.length cd, .slice at1 Lt.length ct, .slice ab Lb.length cb] 27)).alloc (.cells #[.slice none 0 0, .slice none 0 0] 29)) = V at *
 have HX := Lib.hid hx0
 clear hx0
 have cA := cellOf HA.out
 go_wp2_with fail
 clear cA
 refine (rvalidSys_any x _ _ _ Ld Lt Lb V (H.out.extNo HX.out)).mono ?_
 rintro e1 w1 ⟨b, rfl, hb, hx1⟩
 obtain rfl : b = false := by
  cases b with
  | false => rfl
  | true => exact absurd (hb.1 rfl) HN.out
 clear hb
 go_upto_region 2 with (fail)
 have hC1 := hx1.blk HC.out no_no
 have cC := cellOf hC1
 have fC := freeOf hC1
 have hE := set2p24 w1 (W.heap.size + 1) (.slice none 0 0) (.slice none 0 0)
 have hbF := fin2p24 hC1 (.slice none 0 0) (.slice none 0 0)
 have HXF := Lib.hid (show Ext No W ((w1.setCell ⟨W.heap.size + 1, 0, none⟩ (.slice none 0 0)).setCell ⟨W.heap.size + 1, 1, none⟩ (.slice none 0 0)) from (HX.out.transNo hx1).trans2 hE (fun i hi e => by unfold At at e; omega))
 go_wp2_with fail
 clear cC fC
 generalize ((w1.setCell ⟨W.heap.size + 1, 0, none⟩ (.slice none 0 0)).setCell ⟨W.heap.size + 1, 1, none⟩ (.slice none 0 0)) = WF at *
 have cF := cellOf hbF
 refine ret_ex rfl ?_
 simp [results, Tryz.results11, go_sem, cF]
 exact ⟨none, none, 0, 0, 0, 0, rfl, HXF.out⟩
theorem pcheckR_any (o : Option SysD) (x : Int) (vd vt vb vv vr : Value) (Lv : LS) (R : LD) (W : World) (hT : TabW W) (h : SysR No W x vd vt vb o) (hv : LAt kS No W vv Lv) (hr : LAt kD No W vr R) :
  Calls Tryz.prog 15 #[.agg #[.int .i64 x, vd, vt, vb], .agg #[vv, vr]] W (ChkRP o Lv R W) := by
 cases o with
 | some S =>
  obtain ⟨rfl, h2⟩ := h
  refine (check_any S vd vt vb vv vr Lv R W hT h2 hv hr).mono ?_
  rintro e w' ⟨z, rfl, hz, hx⟩
  exact ⟨z, rfl, hz, hx⟩
 | none =>
  obtain ⟨Ld, Lt, Lb, h1, h2⟩ := h
  obtain ⟨av, cv, e1⟩ := hv.slice
  obtain ⟨ar, cr, e2⟩ := hr.slice
  refine (pcheck_inv x vd vt vb vv vr Ld Lt Lb av ar _ cv _ cr W e1 e2 h1 h2).mono ?_
  rintro e w' ⟨rfl, hx⟩
  exact ⟨1, rfl, rfl, hx⟩
theorem rcheckR_any (o : Option SysD) (x : Int) (vd vt vb vv vr : Value) (Lv : LS) (R : LD) (W : World) (h : SysR No W x vd vt vb o) (hv : LAt kS No W vv Lv) (hr : LAt kD No W vr R) :
  Calls Tryz.prog 16 #[.agg #[.int .i64 x, vd, vt, vb], .agg #[vv, vr]] W (ChkRP o Lv R W) := by
 cases o with
 | some S =>
  obtain ⟨rfl, h2⟩ := h
  refine (rcheck_any S vd vt vb vv vr Lv R W h2 hv hr).mono ?_
  rintro e w' ⟨z, rfl, hz, hx⟩
  exact ⟨z, rfl, hz, hx⟩
 | none =>
  obtain ⟨Ld, Lt, Lb, h1, h2⟩ := h
  obtain ⟨av, cv, e1⟩ := hv.slice
  obtain ⟨ar, cr, e2⟩ := hr.slice
  refine (rcheck_inv x vd vt vb vv vr Ld Lt Lb av ar _ cv _ cr W e1 e2 h1 h2).mono ?_
  rintro e w' ⟨rfl, hx⟩
  exact ⟨1, rfl, rfl, hx⟩
theorem MkRP.of {S : SysD} {M : Nat → Prop} {W w' : World} {e : Ending} (h : MakePostM M S W e w') : MkRP (some S) W e w' := by
 obtain ⟨R, a, ar, c, cr, Rk, _, rfl, _, _, hx⟩ := h
 exact ⟨a, ar, _, _, c, cr, rfl, hx⟩
theorem pmakeR_any (o : Option SysD) (x : Int) (vd vt vb : Value) (W : World) (hT : TabW W) (h : SysR No W x vd vt vb o) :
  Calls Tryz.prog 10 #[.agg #[.int .i64 x, vd, vt, vb]] W (MkRP o W) := by
 cases o with
 | some S =>
  obtain ⟨rfl, h2⟩ := h
  exact (pmakeM_any No S vd vt vb W (fun _ e => e.elim) hT h2).mono (fun _ _ h => MkRP.of h)
 | none =>
  obtain ⟨Ld, Lt, Lb, h1, h2⟩ := h
  exact pmake_inv x vd vt vb Ld Lt Lb W h1 h2
theorem rmakeR_any (o : Option SysD) (x : Int) (vd vt vb : Value) (W : World) (h : SysR No W x vd vt vb o) :
  Calls Tryz.prog 11 #[.agg #[.int .i64 x, vd, vt, vb]] W (MkRP o W) := by
 cases o with
 | some S =>
  obtain ⟨rfl, h2⟩ := h
  exact (rmakeM_any No S vd vt vb W (fun _ e => e.elim) h2).mono (fun _ _ h => MkRP.of h)
 | none =>
  obtain ⟨Ld, Lt, Lb, h1, h2⟩ := h
  exact rmake_inv x vd vt vb Ld Lt Lb W h1 h2
