
import Derived.Test.YtjeohlooaiociaaGreatDoorP28
import Derived.Test.YtjeohlooaiociaaGreatDoorP23
set_option linter.unusedVariables false
set_option linter.unusedSimpArgs false
namespace Go.Proofs.YtjeohlooaiociaaGreatDoor
open Go Go.RowKit Tj
theorem mk_lists {S : SysD} {vs : List Nat} {R : Nat} {Rk : LD} (hl : Rk.length = S.deps.length) (hk : ∀ n, n < S.deps.length → rkD Rk n = natsZ ((List.range (memD S vs n).length).map fun i => rkI S vs n i R)) :
  Rk.map Prod.fst = ((List.range S.deps.length).map fun n => (List.range (memD S vs n).length).map fun i => rkI S vs n i R).map natsZ := by
 refine List.ext_getElem (by simp [hl]) (fun n h1 h2 => ?_)
 have hn : n < Rk.length := by simpa using h1
 have h3 := hk n (by rw [← hl]; exact hn)
 rw [rkD_get hn] at h3
 simp only [List.getElem_map, List.getElem_range]
 exact h3
structure PmM (tb : Nat) (W0 wr : World) (A PA PB : Nat) (S : SysD) (vd vt vb va ra vb2 rb : Value) (vs : List Nat) (RA RB : LD) : Prop where
 ext : Ext No W0 wr
 tape : TapeOk wr tb
 sys : SysAt (At tb) wr vd vt vb S
 boxA : wr.heap[A]? = some (.cells #[.int .i64 (S.w : Int), vd, vt, vb] 27 (0, 0))
 boxP : wr.heap[PA]? = some (.cells #[va, ra] 29 (0, 0))
 boxQ : wr.heap[PB]? = some (.cells #[vb2, rb] 29 (0, 0))
 pa : PrfAt (At tb) wr S va ra vs RA
 pb : PrfAt (At tb) wr S vb2 rb vs RB
 ne : tb ≠ A ∧ tb ≠ PA ∧ tb ≠ PB
 low : W0.heap.size ≤ tb
section
variable {tb : Nat} {W0 wr w' : World} {A PA PB : Nat} {S : SysD} {vd vt vb va ra vb2 rb : Value} {vs : List Nat} {RA RB : LD}
theorem PmM.step (h : PmM tb W0 wr A PA PB S vd vt vb va ra vb2 rb vs RA RB) (hx : Ext (At tb) wr w') (ht : TapeOk w' tb) : PmM tb W0 w' A PA PB S vd vt vb va ra vb2 rb vs RA RB := by
 have h1 := h.low
 obtain ⟨h2, h3, h4⟩ := h.ne
 exact ⟨h.ext.trans2 hx (fun i hi e => by unfold At at e; omega), ht, h.sys.ext hx (fun _ _ e => e), hx.blk h.boxA (fun (e : A = tb) => h2 e.symm), hx.blk h.boxP (fun (e : PA = tb) => h3 e.symm), hx.blk h.boxQ (fun (e : PB = tb) => h4 e.symm), ⟨h.pa.vals.ext hx (fun _ _ e => e), h.pa.rk.ext hx (fun _ _ e => e), h.pa.l1, h.pa.l2, h.pa.l3⟩, ⟨h.pb.vals.ext hx (fun _ _ e => e), h.pb.rk.ext hx (fun _ _ e => e), h.pb.l1, h.pb.l2, h.pb.l3⟩, ⟨h2, h3, h4⟩, h1⟩
theorem PmM.stepNo (h : PmM tb W0 wr A PA PB S vd vt vb va ra vb2 rb vs RA RB) (hx : Ext No wr w') : PmM tb W0 w' A PA PB S vd vt vb va ra vb2 rb vs RA RB := h.step hx.ofNo (h.tape.ext hx)
end
set_option maxRecDepth 100000 in
set_option maxHeartbeats 16000000 in
theorem proofMakes_any (tl : Value) (zs : List Int) (x : Int) (vd0 vt0 vb0 : Value) (Ld0 : LD) (Lt0 : LT) (Lb0 : LS) (pvv prr : Value) (Lp : LS) (Rp : LD) (w : World) (hT : TabW w) (ht : Ints No w .i64 tl zs) (hs : YAt No w vd0 vt0 vb0 Ld0 Lt0 Lb0) (hpv : LAt kS No w pvv Lp) (hpr : LAt kD No w prr Rp) :
  Calls Tryz.prog 3 #[tl, .agg #[.int .i64 x, vd0, vt0, vb0], .agg #[pvv, prr]] w (BoolPost true w) := by
 have HT := Lib.hid ht
 have HTB := Lib.hid hT
 have HS0 := Lib.hid hs
 have HPV := Lib.hid hpv
 have HPR := Lib.hid hpr
 obtain ⟨at', ct', rfl⟩ := Row.slice ht
 obtain ⟨sd, kd, rfl⟩ := hs.d.slice
 obtain ⟨st, kt, rfl⟩ := hs.t.slice
 obtain ⟨sb, kb, rfl⟩ := hs.b.slice
 obtain ⟨pv, cL, rfl⟩ := hpv.slice
 obtain ⟨pr, cR, rfl⟩ := hpr.slice
 obtain ⟨nd, hnd⟩ : ∃ nd, nd = Ld0.length := ⟨_, rfl⟩
 obtain ⟨nt, hnt⟩ : ∃ nt, nt = Lt0.length := ⟨_, rfl⟩
 obtain ⟨nb, hnb⟩ : ∃ nb, nb = Lb0.length := ⟨_, rfl⟩
 obtain ⟨nL, hnL⟩ : ∃ nL, nL = Lp.length := ⟨_, rfl⟩
 obtain ⟨nR, hnR⟩ : ∃ nR, nR = Rp.length := ⟨_, rfl⟩
 rw [← hnd, ← hnt, ← hnb] at HS0 ⊢
 rw [← hnL] at HPV ⊢
 rw [← hnR] at HPR ⊢
 clear ht hT hs hpv hpr hnd hnt hnb hnL hnR
 go_enter Tryz.func3, Tryz.ntmps3
 go_upto_region 1 with (fail)
 have hxv : Ext No w ((w.alloc (.cells #[.int .i64 x, .slice sd nd kd, .slice st nt kt, .slice sb nb kb] 27)).alloc (.cells #[.slice pv nL cL, .slice pr nR cR] 29)) := ((Ext.refl _ _).alloc _).alloc _
 have HA0 := Lib.hid (show ((w.alloc (.cells #[.int .i64 x, .slice sd nd kd, .slice st nt kt, .slice sb nb kb] 27)).alloc (.cells #[.slice pv nL cL, .slice pr nR cR] 29)).heap[w.heap.size]? = some (.cells #[.int .i64 x, .slice sd nd kd, .slice st nt kt, .slice sb nb kb] 27 (0, 0)) from alloc_under (alloc_top rfl))
 have HB0 := Lib.hid (show ((w.alloc (.cells #[.int .i64 x, .slice sd nd kd, .slice st nt kt, .slice sb nb kb] 27)).alloc (.cells #[.slice pv nL cL, .slice pr nR cR] 29)).heap[w.heap.size + 1]? = some (.cells #[.slice pv nL cL, .slice pr nR cR] 29 (0, 0)) from alloc_top (by simp))
 generalize ((w.alloc (.cells #[.int .i64 x, .slice sd nd kd, .slice st nt kt, .slice sb nb kb] 27)).alloc (.cells #[.slice pv nL cL, .slice pr nR cR] 29)) = V at *
 generalize w.heap.size = A0 at *
 have HXV := Lib.hid hxv
 clear hxv
 go_wp2_with fail
 refine (new_any _ zs _ (Row.extNo HT.out HXV.out)).mono ?_
 rintro e0 w0 ⟨rfl, ht0, hx0, hs0⟩
 obtain ⟨tb, htb⟩ : ∃ tb, tb = V.heap.size := ⟨_, rfl⟩
 rw [← htb] at ht0 ⊢
 have HTb := Lib.hid htb
 have HT0 := Lib.hid ht0
 have HX0 := Lib.hid hx0
 clear htb ht0 hx0 hs0
 go_wp2_with fail
 go_loopw [8, 9, 10, 11, 12, 13, 14, 15, 16, 17, 18, 19] (fun i _ _ _ _ _ _ _ _ _ _ _ wr => ∃ k : Nat, k ≤ 5 ∧ i = .int .i64 k ∧ Hid (TapeOk wr tb ∧ Ext No V wr)) (fun i _ _ _ _ _ _ _ _ _ _ _ _ => 5 - (intOf i).toNat)
 case atStart => exact ⟨0, Nat.zero_le _, rfl, Lib.hid ⟨HT0.out, HX0.out⟩⟩
 obtain ⟨i, hi, rfl, hm⟩ := hrel
 rename World => wr
 clear HT0 HX0
 by_cases hlt : i < 5
 ·have hlz : (i : Int) < 5 := by omega
  have HII : Hid (Value.int .i64 ((i : Int) + 1) = .int .i64 ((i + 1 : Nat) : Int)) := Lib.hid (by rw [show ((i + 1 : Nat) : Int) = (i : Int) + 1 from by omega])
  go_wp2_with fail
  refine (sysgen_any tb 5 _ (by decide) (by decide) hm.out.1).mono ?_
  rintro e1 w1 ⟨S, vd, vt, vb, rfl, hw4, hn4, hS, ht1, hx1⟩
  have HOK := Lib.hid hS.out.ok
  obtain ⟨ad, cd, at1, ct, ab, cb, rfl, rfl, rfl⟩ := hS.out.slices
  have htw : tb < wr.heap.size := hm.out.1.lt
  have HS := Lib.hid (hS.out.mono (M' := At tb) (fun i _ e => by unfold At at e; unfold Lo; omega))
  have HX1 := Lib.hid (hm.out.2.trans2 hx1 (fun i hi e => by unfold At at e; have := HTb.out; omega))
  have HT1 := Lib.hid ht1
  have hnn := HOK.out.n2
  have hn1 := HOK.out.n1
  have hww := HOK.out.w
  clear hm hS ht1 hx1
  go_upto_region 6 with (fail)
  have hxa : Ext No w1 (w1.alloc (.cells #[.int .i64 (S.w : Int), .slice ad S.deps.length cd, .slice at1 S.deps.length ct, .slice ab S.deps.length cb] 27)) := (Ext.refl _ _).alloc _
  have HA := Lib.hid (alloc_top (w := w1) (o := (.cells #[.int .i64 (S.w : Int), .slice ad S.deps.length cd, .slice at1 S.deps.length ct, .slice ab S.deps.length cb] 27)) rfl)
  have HS1 := Lib.hid (HS.out.extNo hxa)
  have HXA := Lib.hid (HX1.out.transNo hxa)
  have HTA := Lib.hid (HT1.out.ext hxa)
  have HAtb := Lib.hid (show tb ≠ w1.heap.size from by have := HT1.out.lt; omega)
  clear hxa HS HX1 HT1
  generalize (w1.alloc (.cells #[.int .i64 (S.w : Int), .slice ad S.deps.length cd, .slice at1 S.deps.length ct, .slice ab S.deps.length cb] 27)) = V1 at *
  generalize w1.heap.size = A at *
  have cA := cellOf HA.out
  go_wp2_with fail
  clear cA
  refine (pmakeM_any (At tb) S _ _ _ V1 (fun b e => by rw [show b = tb from e]; exact HTA.out.lt) (HTB.out.ext (HXV.out.transNo HXA.out)) HS1.out.no).mono ?_
  rintro e3 w3 ⟨R, a, ar, c, cr, Rk, hF, rfl, hP, hK, hx3⟩
  have HF := Lib.hid hF
  have HKA := Lib.hid hK.out
  have HS3 := Lib.hid (HS1.out.extNo hx3)
  have HX3 := Lib.hid (HXA.out.transNo hx3)
  have HT3 := Lib.hid (HTA.out.ext hx3)
  have HA3 := Lib.hid (hx3.blk HA.out no_no)
  have HP3 := Lib.hid hP.out
  clear hF hK hP hx3 HS1 HXA HTA HA
  go_upto_region 7 with (fail)
  have hxa : Ext No w3 (w3.alloc (.cells #[.slice a S.deps.length c, .slice ar S.deps.length cr] 29)) := (Ext.refl _ _).alloc _
  have HPB := Lib.hid (alloc_top (w := w3) (o := (.cells #[.slice a S.deps.length c, .slice ar S.deps.length cr] 29)) rfl)
  have HS4 := Lib.hid (HS3.out.extNo hxa)
  have HX4 := Lib.hid (HX3.out.transNo hxa)
  have HT4 := Lib.hid (HT3.out.ext hxa)
  have HA4 := Lib.hid (hxa.blk HA3.out no_no)
  have HP4 := Lib.hid (show PrfAt (At tb) (w3.alloc (.cells #[.slice a S.deps.length c, .slice ar S.deps.length cr] 29)) S (.slice a S.deps.length c) (.slice ar S.deps.length cr) (iterD S R) Rk from ⟨HP3.out.vals.extNo hxa, HP3.out.rk.extNo hxa, HP3.out.l1, HP3.out.l2, HP3.out.l3⟩)
  have HPtb := Lib.hid (show tb ≠ w3.heap.size from by have := HT3.out.lt; omega)
  clear hxa HS3 HX3 HT3 HA3 HP3
  generalize (w3.alloc (.cells #[.slice a S.deps.length c, .slice ar S.deps.length cr] 29)) = V3 at *
  generalize w3.heap.size = PA at *
  have cA := cellOf HA4.out
  go_wp2_with fail
  clear cA
  refine (rmakeM_any (At tb) S _ _ _ V3 (fun b e => by rw [show b = tb from e]; exact HT4.out.lt) HS4.out).mono ?_
  rintro e5 w5 ⟨R', b, br, d, dr, Rk2, hF, rfl, hP, hK, hx5⟩
  obtain rfl : R = R' := hF.eq HF.out.first HF.out.fix
  have HKB := Lib.hid hK.out
  go_upto_region 8 with (fail)
  have hxa : Ext No w5 (w5.alloc (.cells #[.slice b S.deps.length d, .slice br S.deps.length dr] 29)) := (Ext.refl _ _).alloc _
  have HM := Lib.hid (show PmM tb V (w5.alloc (.cells #[.slice b S.deps.length d, .slice br S.deps.length dr] 29)) A PA w5.heap.size S _ _ _ (.slice a S.deps.length c) (.slice ar S.deps.length cr) (.slice b S.deps.length d) (.slice br S.deps.length dr) (iterD S R) Rk Rk2 from ⟨(HX4.out.transNo hx5).transNo hxa, (HT4.out.ext hx5).ext hxa, (HS4.out.extNo hx5).extNo hxa, hxa.blk (hx5.blk HA4.out no_no) no_no, hxa.blk (hx5.blk HPB.out no_no) no_no, alloc_top rfl, ⟨(HP4.out.vals.extNo hx5).extNo hxa, (HP4.out.rk.extNo hx5).extNo hxa, HP4.out.l1, HP4.out.l2, HP4.out.l3⟩, ⟨hP.out.vals.extNo hxa, hP.out.rk.extNo hxa, hP.out.l1, hP.out.l2, hP.out.l3⟩, ⟨HAtb.out, HPtb.out, by have := (HT4.out.ext hx5).lt; omega⟩, by have := HTb.out; omega⟩)
  clear hxa hF hK hP hx5 HS4 HX4 HT4 HA4 HP4 HPB HAtb HPtb
  generalize (w5.alloc (.cells #[.slice b S.deps.length d, .slice br S.deps.length dr] 29)) = V5 at *
  generalize w5.heap.size = PB at *
  obtain ⟨Lq, hLq, hLqe, hLql⟩ := HM.out.pb.vals.list
  have hLn : Lq.length = S.deps.length := by rw [hLql, (good_iter HOK.out R).len]
  have cP := cellOf HM.out.boxQ
  go_wp2_with fail
  clear cP
  refine (spoilP_any tb S.w _ _ Lq Rk2 _ hLq HM.out.pb.rk (set_of_map hLqe hww (good_iter HOK.out R).lt) (by omega) (by rw [HM.out.pb.l2, hLn]) (by omega) (by omega) (rkD_lens HM.out.pb hww) HM.out.tape).mono ?_
  rintro e6 w6 ⟨vc0, vd', Lc, Rc, rfl, hLc, hRc, -, -, ht6, hx6⟩
  obtain ⟨vc, kc, rfl⟩ := hLc.out.slice
  obtain ⟨rc, jc, rfl⟩ := hRc.out.slice
  have hxc : Ext No w6 (w6.alloc (.cells #[.slice vc Lc.length kc, .slice rc Rc.length jc] 29)) := (Ext.refl _ _).alloc _
  have HM6 := Lib.hid ((HM.out.step hx6 ht6).stepNo hxc)
  have HLC := Lib.hid (hLc.out.extNo hxc)
  have HRC := Lib.hid (hRc.out.extNo hxc)
  have HBC := Lib.hid (alloc_top (w := w6) (o := (.cells #[.slice vc Lc.length kc, .slice rc Rc.length jc] 29)) rfl)
  have HCtb := Lib.hid (show ¬ At tb w6.heap.size from fun (e : w6.heap.size = tb) => by have := ht6.lt; omega)
  clear hLq hLqe hLql hLn hLc hRc ht6 hx6 hxc HM
  go_upto_region 9 with (fail)
  generalize (w6.alloc (.cells #[.slice vc Lc.length kc, .slice rc Rc.length jc] 29)) = V6 at *
  generalize w6.heap.size = CB at *
  obtain ⟨Ld, Lt, Lb, hya, hvs⟩ := HM6.out.sys.vs
  have cA := cellOf HM6.out.boxA
  go_wp2_with fail
  clear cA
  refine (spoilSys_any tb _ _ _ _ Ld Lt Lb _ hya hvs HM6.out.tape).mono ?_
  rintro e7 w7 ⟨xy, yvd, yvt, yvb, Ly1, Ly2, Ly3, rfl, hy, ht7, hx7⟩
  obtain ⟨oy, hoy⟩ := SysR.ex (x := xy) hy.out
  obtain ⟨yd, ny1, my1, yt, ny2, my2, yb, ny3, my3, rfl, rfl, rfl⟩ := hoy.slices
  go_upto_region 10 with (fail)
  have hxy : Ext No w7 (w7.alloc (.cells #[.int .i64 xy, .slice yd ny1 my1, .slice yt ny2 my2, .slice yb ny3 my3] 27)) := (Ext.refl _ _).alloc _
  have HM7 := Lib.hid ((HM6.out.step hx7 ht7).stepNo hxy)
  have HLC7 := Lib.hid ((HLC.out.ext hx7 (fun _ _ e => e)).no.extNo hxy)
  have HRC7 := Lib.hid ((HRC.out.ext hx7 (fun _ _ e => e)).no.extNo hxy)
  have HBC7 := Lib.hid (hxy.blk (hx7.blk HBC.out HCtb.out) no_no)
  have HYR7 := Lib.hid (hoy.extNo hxy)
  have HBY7 := Lib.hid (alloc_top (w := w7) (o := (.cells #[.int .i64 xy, .slice yd ny1 my1, .slice yt ny2 my2, .slice yb ny3 my3] 27)) rfl)
  clear hya hvs hy ht7 hx7 hoy hxy HM6 HLC HRC HBC HCtb
  generalize (w7.alloc (.cells #[.int .i64 xy, .slice yd ny1 my1, .slice yt ny2 my2, .slice yb ny3 my3] 27)) = V7 at *
  generalize w7.heap.size = YB at *
  have cY := cellOf HBY7.out
  go_wp2_with fail
  clear cY
  refine (pmakeR_any oy xy _ _ _ V7 (HTB.out.ext (HXV.out.transNo HM7.out.ext)) HYR7.out).mono ?_
  rintro e8 w8 ⟨g1, g2, n1, n2, k1, k2, rfl, hx8⟩
  go_upto_region 11 with (fail)
  have hxz : Ext No w8 (w8.alloc (.cells #[.slice g1 n1 k1, .slice g2 n2 k2] 29)) := (Ext.refl _ _).alloc _
  have HE8 := Lib.hid (hx8.transNo hxz)
  clear hx8 hxz
  generalize (w8.alloc (.cells #[.slice g1 n1 k1, .slice g2 n2 k2] 29)) = V8 at *
  have cY := cellOf (HE8.out.blk HBY7.out no_no)
  go_wp2_with fail
  clear cY
  refine (rmakeR_any oy xy _ _ _ V8 (HYR7.out.extNo HE8.out)).mono ?_
  rintro e9 w9 ⟨g3, g4, n3, n4, k3, k4, rfl, hx9⟩
  go_upto_region 12 with (fail)
  have hxz : Ext No w9 (w9.alloc (.cells #[.slice g3 n3 k3, .slice g4 n4 k4] 29)) := (Ext.refl _ _).alloc _
  have HE9 := Lib.hid ((HE8.out.transNo hx9).transNo hxz)
  clear hx9 hxz HE8
  generalize (w9.alloc (.cells #[.slice g3 n3 k3, .slice g4 n4 k4] 29)) = V9 at *
  have HM9 := Lib.hid (HM7.out.stepNo HE9.out)
  have HLC9 := Lib.hid (HLC7.out.extNo HE9.out)
  have HRC9 := Lib.hid (HRC7.out.extNo HE9.out)
  have HBC9 := Lib.hid (HE9.out.blk HBC7.out no_no)
  have HYR9 := Lib.hid (HYR7.out.extNo HE9.out)
  have HBY9 := Lib.hid (HE9.out.blk HBY7.out no_no)
  have HBA9 := Lib.hid HM9.out.boxA
  have HBP9 := Lib.hid HM9.out.boxP
  have HBQ9 := Lib.hid HM9.out.boxQ
  have HPA9 := Lib.hid HM9.out.pa.noP
  have HPB9 := Lib.hid HM9.out.pb.noP
  have HSX9 := Lib.hid (show SysR No V9 (S.w : Int) (.slice ad S.deps.length cd) (.slice at1 S.deps.length ct) (.slice ab S.deps.length cb) (some S) from ⟨rfl, HM9.out.sys.no⟩)
  have HTW9 := Lib.hid (HTB.out.ext (HXV.out.transNo HM9.out.ext))
  obtain ⟨Lb2, hLb2, hLb2e, -⟩ := HM9.out.pb.vals.no.list
  have HLB := Lib.hid hLb2
  have HACC := Lib.hid (mk_acc HOK.out HF.out HM9.out.pb.l2 HKB.out hLb2e)
  have hez : (ErrZ oy != ErrZ oy) = false := by simp
  clear hLb2 hLb2e HE9 HM7 HLC7 HRC7 HBC7 HYR7 HBY7
  refine wp_region_held_drew (S := (fun w' => Ext No V9 w')) (by kernel_rfl) ?_ (fun hHeld => ?_)
  ·exact (Ext.refl _ _).drew
  have HE := Lib.hid (show Ext No V9 V9.drew from (Ext.refl No _).drew)
  generalize V9.drew = v0 at *
  refine hHs [0, 1, 2, 3, 4, 5, 6, 7, 8, 9] ?_
  iterate 10
   refine hTn ?_ hHeld (fun w hSw => ?_) ?_
   rotate_left
   ·(have q0 := cellOf ((show Ext No V9 _ from hSw).blk HBP9.out no_no)); go_simp; (try with_reducible rfl)
   simp only [Act.put, nzA, nzB, nzC]
  refine hHe ?_
  refine hTk 10 ?_ hHeld (fun w hSw => ?_) ?_
  rotate_left
  ·(have x0 := cellOf ((show Ext No V9 _ from hSw).blk HBQ9.out no_no)); go_simp; (try with_reducible rfl)
  simp only [Act.put, nzA, nzB, nzC]
  refine hHc 11 fun K hK => ?_
  (go_simp; (go_at_call 14); (refine (sameProof_any S.w (iterD S R) (iterD S R) ((List.range S.deps.length).map fun n => (List.range (memD S (iterD S R) n).length).map fun i => rkI S (iterD S R) n i R) ((List.range S.deps.length).map fun n => (List.range (memD S (iterD S R) n).length).map fun i => rkI S (iterD S R) n i R) Rk Rk2 _ _ _ _ _ (HPA9.out.vals.extNo HE.out) (HPB9.out.vals.extNo HE.out) (by rw [(good_iter HOK.out R).len]; omega) (HPA9.out.rk.extNo HE.out) (mk_lists HPA9.out.l2 HKA.out) (HPB9.out.rk.extNo HE.out) (mk_lists HPB9.out.l2 HKB.out)).mono ?_); (rintro e7 v1 ⟨rfl, hyA⟩); (rw [decide_eq_true (And.intro rfl rfl)]); go_simp)
  refine hK.out _ _ ?_ ?_
  ·exact HE.out.transNo hyA
  clear hK K hHeld
  intro hHeld
  replace HE := Lib.hid (HE.out.transNo hyA)
  clear hyA
  try simp only [Act.put, nzA, nzB, nzC]
  refine hHs [12, 13, 14, 15] ?_
  iterate 4
   refine hTn ?_ hHeld (fun w hSw => ?_) ?_
   rotate_left
   ·(have q0 := cellOf ((show Ext No V9 _ from hSw).blk HBA9.out no_no)); go_simp; (try with_reducible rfl)
   simp only [Act.put, nzA, nzB, nzC]
  refine hHe ?_
  refine hTk 16 ?_ hHeld (fun w hSw => ?_) ?_
  rotate_left
  ·(have x0 := cellOf ((show Ext No V9 _ from hSw).blk HBQ9.out no_no)); go_simp; (try with_reducible rfl)
  simp only [Act.put, nzA, nzB, nzC]
  refine hHc 17 fun K hK => ?_
  (go_simp; (go_at_call 15); (refine (check_any S _ _ _ _ _ Lb2 Rk2 _ (HTW9.out.ext HE.out) (HM9.out.sys.no.extNo HE.out) (HLB.out.extNo HE.out) (HPB9.out.rk.extNo HE.out)).mono ?_); (rintro e7 v2 ⟨z0, rfl, hz, hyA⟩); (obtain rfl : z0 = 0 := by rcases hz with h | h; exact h.2; exact absurd HACC.out h.1); (clear hz); go_simp)
  refine hK.out _ _ ?_ ?_
  ·exact HE.out.transNo hyA
  clear hK K hHeld
  intro hHeld
  replace HE := Lib.hid (HE.out.transNo hyA)
  clear hyA
  try simp only [Act.put, nzA, nzB, nzC]
  refine hHs [18, 19, 20, 21] ?_
  iterate 4
   refine hTn ?_ hHeld (fun w hSw => ?_) ?_
   rotate_left
   ·(have q0 := cellOf ((show Ext No V9 _ from hSw).blk HBA9.out no_no)); go_simp; (try with_reducible rfl)
   simp only [Act.put, nzA, nzB, nzC]
  refine hHe ?_
  refine hTk 22 ?_ hHeld (fun w hSw => ?_) ?_
  rotate_left
  ·(have x0 := cellOf ((show Ext No V9 _ from hSw).blk HBC9.out no_no)); go_simp; (try with_reducible rfl)
  simp only [Act.put, nzA, nzB, nzC]
  refine hTk 24 ?_ hHeld (fun w hSw => ?_) ?_
  rotate_left
  ·(have x0 := cellOf ((show Ext No V9 _ from hSw).blk HBA9.out no_no)); go_simp; (try with_reducible rfl)
  simp only [Act.put, nzA, nzB, nzC]
  refine hTk 25 ?_ hHeld (fun w hSw => ?_) ?_
  rotate_left
  ·(have x0 := cellOf ((show Ext No V9 _ from hSw).blk HBC9.out no_no)); go_simp; (try with_reducible rfl)
  simp only [Act.put, nzA, nzB, nzC]
  refine hHc 23 fun K hK => ?_
  (go_simp; (go_at_call 15); (refine (pcheckR_any (some S) (S.w : Int) _ _ _ _ _ Lc Rc _ (HTW9.out.ext HE.out) (HSX9.out.extNo HE.out) (HLC9.out.extNo HE.out) (HRC9.out.extNo HE.out)).mono ?_); (rintro e7 v3 ⟨z1, rfl, hz1, hyA⟩); go_simp)
  refine hK.out _ _ ?_ ?_
  ·exact HE.out.transNo hyA
  clear hK K hHeld
  intro hHeld
  have Hz1 := Lib.hid hz1
  clear hz1
  replace HE := Lib.hid (HE.out.transNo hyA)
  clear hyA
  try simp only [Act.put, nzA, nzB, nzC]
  refine hHc 26 fun K hK => ?_
  (go_simp; (go_at_call 16); (refine (rcheckR_any (some S) (S.w : Int) _ _ _ _ _ Lc Rc _ (HSX9.out.extNo HE.out) (HLC9.out.extNo HE.out) (HRC9.out.extNo HE.out)).mono ?_); (rintro e7 v4 ⟨z2, rfl, hz2, hyA⟩); (obtain rfl : z2 = z1 := ChkZ.uniq hz2 Hz1.out); (have hqz1 : (z2 != z2) = false := by simp); go_simp)
  refine hK.out _ _ ?_ ?_
  ·exact HE.out.transNo hyA
  clear hK K hHeld
  intro hHeld
  clear hz2
  replace HE := Lib.hid (HE.out.transNo hyA)
  clear hyA
  try simp only [Act.put, nzA, nzB, nzC]
  refine hHs [27, 28, 29, 30] ?_
  iterate 4
   refine hTn ?_ hHeld (fun w hSw => ?_) ?_
   rotate_left
   ·(have q0 := cellOf ((show Ext No V9 _ from hSw).blk HBY9.out no_no)); go_simp; (try with_reducible rfl)
   simp only [Act.put, nzA, nzB, nzC]
  refine hHe ?_
  refine hTk 31 ?_ hHeld (fun w hSw => ?_) ?_
  rotate_left
  ·(have x0 := cellOf ((show Ext No V9 _ from hSw).blk HBQ9.out no_no)); go_simp; (try with_reducible rfl)
  simp only [Act.put, nzA, nzB, nzC]
  refine hTk 33 ?_ hHeld (fun w hSw => ?_) ?_
  rotate_left
  ·(have x0 := cellOf ((show Ext No V9 _ from hSw).blk HBY9.out no_no)); go_simp; (try with_reducible rfl)
  simp only [Act.put, nzA, nzB, nzC]
  refine hTk 34 ?_ hHeld (fun w hSw => ?_) ?_
  rotate_left
  ·(have x0 := cellOf ((show Ext No V9 _ from hSw).blk HBQ9.out no_no)); go_simp; (try with_reducible rfl)
  simp only [Act.put, nzA, nzB, nzC]
  refine hHc 32 fun K hK => ?_
  (go_simp; (go_at_call 15); (refine (pcheckR_any oy xy _ _ _ _ _ Lb2 Rk2 _ (HTW9.out.ext HE.out) (HYR9.out.extNo HE.out) (HLB.out.extNo HE.out) (HPB9.out.rk.extNo HE.out)).mono ?_); (rintro e7 v5 ⟨z3, rfl, hz3, hyA⟩); go_simp)
  refine hK.out _ _ ?_ ?_
  ·exact HE.out.transNo hyA
  clear hK K hHeld
  intro hHeld
  have Hz3 := Lib.hid hz3
  clear hz3
  replace HE := Lib.hid (HE.out.transNo hyA)
  clear hyA
  try simp only [Act.put, nzA, nzB, nzC]
  refine hHc 35 fun K hK => ?_
  (go_simp; (go_at_call 16); (refine (rcheckR_any oy xy _ _ _ _ _ Lb2 Rk2 _ (HYR9.out.extNo HE.out) (HLB.out.extNo HE.out) (HPB9.out.rk.extNo HE.out)).mono ?_); (rintro e7 v6 ⟨z4, rfl, hz4, hyA⟩); (obtain rfl : z4 = z3 := ChkZ.uniq hz4 Hz3.out); (have hqz3 : (z4 != z4) = false := by simp); go_simp)
  refine hK.out _ _ ?_ ?_
  ·exact HE.out.transNo hyA
  clear hK K hHeld
  intro hHeld
  clear hz4
  replace HE := Lib.hid (HE.out.transNo hyA)
  clear hyA
  try simp only [Act.put, nzA, nzB, nzC]
  refine hHs [36, 37] ?_
  iterate 2
   refine hTn ?_ hHeld (fun w hSw => ?_) ?_
   rotate_left
   ·go_simp; (try with_reducible rfl)
   simp only [Act.put, nzA, nzB, nzC]
  refine hHe ?_
  refine wpAnyH_done (by kernel_rfl) ?_ _
  have HXE := Lib.hid (HM9.out.stepNo HE.out)
  go_wp2_with fail
  go_roundw
  case rel => exact ⟨i + 1, by omega, HII.out, Lib.hid ⟨HXE.out.tape, HXE.out.ext⟩⟩
  case measure => simp [intOf]; omega
 obtain rfl : i = 5 := by omega
 have HX := Lib.hid hm.out.2
 have HAF := Lib.hid (hm.out.2.blk HA0.out no_no)
 have HBF := Lib.hid (hm.out.2.blk HB0.out no_no)
 have HSF := Lib.hid (HS0.out.extNo (HXV.out.transNo hm.out.2))
 obtain ⟨os, hos⟩ := SysR.ex (x := x) HSF.out
 have HOS := Lib.hid hos
 have HVF := Lib.hid (HPV.out.extNo (HXV.out.transNo hm.out.2))
 have HRF := Lib.hid (HPR.out.extNo (HXV.out.transNo hm.out.2))
 have HTF := Lib.hid (HTB.out.ext (HXV.out.transNo hm.out.2))
 clear hm hos
 by_cases h8 : 8 < nL
 ·have h8z : (8 : Int) < (nL : Int) := by omega
  go_upto_region 14 with (fail)
  refine wp_region_held_drew (S := (fun w' => Ext No wr w')) (by kernel_rfl) ?_ (fun hHeld => ?_)
  ·exact (Ext.refl _ _).drew
  have HE := Lib.hid (show Ext No wr wr.drew from (Ext.refl No _).drew)
  generalize wr.drew = v0 at *
  refine hTk 0 ?_ hHeld (fun w hSw => ?_) ?_
  rotate_left
  ·(have x0 := cellOf ((show Ext No wr _ from hSw).blk HAF.out no_no)); go_simp; (try with_reducible rfl)
  simp only [Act.put, nzA, nzB, nzC]
  refine hHc 1 fun K hK => ?_
  (go_simp; (go_at_call 17); (refine (huge_any x _ _ _ Ld0 Lt0 Lb0 _ (HSF.out.extNo HE.out)).mono ?_); (rintro e7 v1 ⟨⟨bh, rfl⟩, hyA⟩); go_simp)
  refine hK.out _ _ ?_ ?_
  ·exact HE.out.transNo hyA
  clear hK K hHeld
  intro hHeld
  replace HE := Lib.hid (HE.out.transNo hyA)
  clear hyA
  cases bh with
  | true =>
   try simp only [Act.put, nzA, nzB, nzC]
   refine hTk 2 ?_ hHeld (fun w hSw => ?_) ?_
   rotate_left
   ·go_simp; (try with_reducible rfl)
   simp only [Act.put, nzA, nzB, nzC]
   refine hHs [3, 4, 5, 6] ?_
   iterate 4
    refine hSn hHeld ?_
    simp only [Act.put, nzA, nzB, nzC]
   refine hHe ?_
   refine hHs [7, 8] ?_
   iterate 2
    refine hTn ?_ hHeld (fun w hSw => ?_) ?_
    rotate_left
    ·go_simp; (try with_reducible rfl)
    simp only [Act.put, nzA, nzB, nzC]
   refine hHe ?_
   refine hHs [9, 10, 11, 12, 13, 14, 15, 16, 17, 18] ?_
   iterate 10
    refine hSn hHeld ?_
    simp only [Act.put, nzA, nzB, nzC]
   refine hHe ?_
   refine hHs [19, 20] ?_
   iterate 2
    refine hTn ?_ hHeld (fun w hSw => ?_) ?_
    rotate_left
    ·go_simp; (try with_reducible rfl)
    simp only [Act.put, nzA, nzB, nzC]
   refine hHe ?_
   refine wpAnyH_done (by kernel_rfl) ?_ _
   go_wp2_with fail
   go_ret
   exact ⟨rfl, (HXV.out.transNo HX.out).transNo HE.out⟩
  | false =>
   try simp only [Act.put, nzA, nzB, nzC]
   refine hHs [2, 3, 4, 5, 6, 7, 8] ?_
   iterate 7
    refine hTn ?_ hHeld (fun w hSw => ?_) ?_
    rotate_left
    ·(have q0 := cellOf ((show Ext No wr _ from hSw).blk HBF.out no_no)); go_simp; (try with_reducible rfl)
    simp only [Act.put, nzA, nzB, nzC]
   refine hHe ?_
   refine hHs [9, 10, 11, 12, 13, 14, 15, 16, 17, 18] ?_
   iterate 10
    refine hSn hHeld ?_
    simp only [Act.put, nzA, nzB, nzC]
   refine hHe ?_
   refine hHs [19, 20] ?_
   iterate 2
    refine hTn ?_ hHeld (fun w hSw => ?_) ?_
    rotate_left
    ·go_simp; (try with_reducible rfl)
    simp only [Act.put, nzA, nzB, nzC]
   refine hHe ?_
   refine wpAnyH_done (by kernel_rfl) ?_ _
   go_wp2_with fail
   go_ret
   exact ⟨rfl, (HXV.out.transNo HX.out).transNo HE.out⟩
 have h8z : ¬ (8 : Int) < (nL : Int) := by omega
 go_upto_region 14 with (fail)
 refine wp_region_held_drew (S := (fun w' => Ext No wr w')) (by kernel_rfl) ?_ (fun hHeld => ?_)
 ·exact (Ext.refl _ _).drew
 have HE := Lib.hid (show Ext No wr wr.drew from (Ext.refl No _).drew)
 generalize wr.drew = v0 at *
 refine hTk 0 ?_ hHeld (fun w hSw => ?_) ?_
 rotate_left
 ·(have x0 := cellOf ((show Ext No wr _ from hSw).blk HAF.out no_no)); go_simp; (try with_reducible rfl)
 simp only [Act.put, nzA, nzB, nzC]
 refine hHc 1 fun K hK => ?_
 (go_simp; (go_at_call 17); (refine (huge_any x _ _ _ Ld0 Lt0 Lb0 _ (HSF.out.extNo HE.out)).mono ?_); (rintro e7 v1 ⟨⟨bh, rfl⟩, hyA⟩); go_simp)
 refine hK.out _ _ ?_ ?_
 ·exact HE.out.transNo hyA
 clear hK K hHeld
 intro hHeld
 replace HE := Lib.hid (HE.out.transNo hyA)
 clear hyA
 cases bh with
 | true =>
  try simp only [Act.put, nzA, nzB, nzC]
  refine hTk 2 ?_ hHeld (fun w hSw => ?_) ?_
  rotate_left
  ·go_simp; (try with_reducible rfl)
  simp only [Act.put, nzA, nzB, nzC]
  refine hHs [3, 4, 5, 6] ?_
  iterate 4
   refine hSn hHeld ?_
   simp only [Act.put, nzA, nzB, nzC]
  refine hHe ?_
  refine hHs [7, 8] ?_
  iterate 2
   refine hTn ?_ hHeld (fun w hSw => ?_) ?_
   rotate_left
   ·go_simp; (try with_reducible rfl)
   simp only [Act.put, nzA, nzB, nzC]
  refine hHe ?_
  refine hHs [9, 10, 11, 12, 13, 14, 15, 16, 17, 18] ?_
  iterate 10
   refine hSn hHeld ?_
   simp only [Act.put, nzA, nzB, nzC]
  refine hHe ?_
  refine hHs [19, 20] ?_
  iterate 2
   refine hTn ?_ hHeld (fun w hSw => ?_) ?_
   rotate_left
   ·go_simp; (try with_reducible rfl)
   simp only [Act.put, nzA, nzB, nzC]
  refine hHe ?_
  refine wpAnyH_done (by kernel_rfl) ?_ _
  go_wp2_with fail
  go_ret
  exact ⟨rfl, (HXV.out.transNo HX.out).transNo HE.out⟩
 | false =>
  try simp only [Act.put, nzA, nzB, nzC]
  refine hHs [2, 3, 4, 5, 6, 7, 8] ?_
  iterate 7
   refine hTn ?_ hHeld (fun w hSw => ?_) ?_
   rotate_left
   ·(have q0 := cellOf ((show Ext No wr _ from hSw).blk HBF.out no_no)); go_simp; (try with_reducible rfl)
   simp only [Act.put, nzA, nzB, nzC]
  refine hHe ?_
  refine hTk 9 ?_ hHeld (fun w hSw => ?_) ?_
  rotate_left
  ·(have x0 := cellOf ((show Ext No wr _ from hSw).blk HAF.out no_no)); go_simp; (try with_reducible rfl)
  simp only [Act.put, nzA, nzB, nzC]
  refine hTk 10 ?_ hHeld (fun w hSw => ?_) ?_
  rotate_left
  ·(have x0 := cellOf ((show Ext No wr _ from hSw).blk HBF.out no_no)); go_simp; (try with_reducible rfl)
  simp only [Act.put, nzA, nzB, nzC]
  refine hTk 12 ?_ hHeld (fun w hSw => ?_) ?_
  rotate_left
  ·(have x0 := cellOf ((show Ext No wr _ from hSw).blk HAF.out no_no)); go_simp; (try with_reducible rfl)
  simp only [Act.put, nzA, nzB, nzC]
  refine hTk 13 ?_ hHeld (fun w hSw => ?_) ?_
  rotate_left
  ·(have x0 := cellOf ((show Ext No wr _ from hSw).blk HBF.out no_no)); go_simp; (try with_reducible rfl)
  simp only [Act.put, nzA, nzB, nzC]
  refine hHc 11 fun K hK => ?_
  (go_simp; (go_at_call 15); (refine (pcheckR_any os x _ _ _ _ _ Lp Rp _ (HTF.out.ext HE.out) (HOS.out.extNo HE.out) (HVF.out.extNo HE.out) (HRF.out.extNo HE.out)).mono ?_); (rintro e7 v2 ⟨z1, rfl, hz1, hyA⟩); go_simp)
  refine hK.out _ _ ?_ ?_
  ·exact HE.out.transNo hyA
  clear hK K hHeld
  intro hHeld
  have Hz1 := Lib.hid hz1
  clear hz1
  replace HE := Lib.hid (HE.out.transNo hyA)
  clear hyA
  try simp only [Act.put, nzA, nzB, nzC]
  refine hHc 14 fun K hK => ?_
  (go_simp; (go_at_call 16); (refine (rcheckR_any os x _ _ _ _ _ Lp Rp _ (HOS.out.extNo HE.out) (HVF.out.extNo HE.out) (HRF.out.extNo HE.out)).mono ?_); (rintro e7 v3 ⟨z2, rfl, hz2, hyA⟩); (obtain rfl : z2 = z1 := ChkZ.uniq hz2 Hz1.out); (have hqz : (z2 == z2) = true := by simp); go_simp)
  refine hK.out _ _ ?_ ?_
  ·exact HE.out.transNo hyA
  clear hK K hHeld
  intro hHeld
  clear hz2
  replace HE := Lib.hid (HE.out.transNo hyA)
  clear hyA
  try simp only [Act.put, nzA, nzB, nzC]
  refine hHs [15, 16] ?_
  iterate 2
   refine hTn ?_ hHeld (fun w hSw => ?_) ?_
   rotate_left
   ·go_simp; (try with_reducible rfl)
   simp only [Act.put, nzA, nzB, nzC]
  refine hHe ?_
  refine hHc 17 fun K hK => ?_
  (go_simp; (go_at_call 18); (refine (sane17_any _ (HTF.out.ext HE.out)).mono ?_); (rintro e7 v4 ⟨rfl, hyA⟩); go_simp)
  refine hK.out _ _ ?_ ?_
  ·exact HE.out.transNo hyA
  clear hK K hHeld
  intro hHeld
  replace HE := Lib.hid (HE.out.transNo hyA)
  clear hyA
  try simp only [Act.put, nzA, nzB, nzC]
  refine hHs [18, 19, 20] ?_
  iterate 3
   refine hTn ?_ hHeld (fun w hSw => ?_) ?_
   rotate_left
   ·go_simp; (try with_reducible rfl)
   simp only [Act.put, nzA, nzB, nzC]
  refine hHe ?_
  refine wpAnyH_done (by kernel_rfl) ?_ _
  go_wp2_with fail
  go_ret
  exact ⟨rfl, (HXV.out.transNo HX.out).transNo HE.out⟩
