
import Derived.Test.YtjeohlooaiociaaGreatDoorP49
import Derived.Test.YtjeohlooaiociaaGreatDoorP23
set_option linter.unusedVariables false
set_option linter.unusedSimpArgs false
namespace Go.Proofs.YtjeohlooaiociaaGreatDoor
open Go Go.RowKit Tj
theorem ints_nil50 (M : Nat → Prop) (w : World) : Ints M w .u8 (.slice none 0 0) (natsZ []) := Row.nil _ _ _ _ _ (by omega)
def EncR (Lv : LS) (R : LD) (sl : Value) (e : Int) (l : List Nat) (w : World) : Prop := ((¬ EncOk Lv R ∧ e = 1 ∧ l = []) ∨ (EncOk Lv R ∧ e = 0 ∧ l = sealB (encB Lv R))) ∧ Ints No w .u8 sl (natsZ l) ∧ ∃ a n c, sl = .slice a n c
theorem EncPost.r {Lv : LS} {R : LD} {W : World} {e : Ending} {w' : World} (h : EncPost Lv R W e w') : ∃ sl z l, e = .returned (.tuple #[sl, .int .i64 z]) ∧ EncR Lv R sl z l w' ∧ Ext No W w' := by
 rcases h with ⟨h1, h2, h3⟩ | ⟨h1, sl, h2, h3, h4⟩
 ·exact ⟨_, _, [], h2, ⟨.inl ⟨h1, rfl, rfl⟩, ints_nil50 _ _, _, _, _, rfl⟩, h3⟩
 obtain ⟨a, c, hs⟩ := h3.out.slice
 exact ⟨_, _, _, h2, ⟨.inr ⟨h1, rfl, rfl⟩, h3.out.ints (fun _ _ e => e), _, _, _, hs⟩, h4⟩
theorem EncR.same {Lv : LS} {R : LD} {s1 s2 : Value} {e1 e2 : Int} {l1 l2 : List Nat} {w1 w2 : World} (h1 : EncR Lv R s1 e1 l1 w1) (h2 : EncR Lv R s2 e2 l2 w2) : e1 = e2 ∧ l1 = l2 := by
 rcases h1.1 with ⟨a, b, c⟩ | ⟨a, b, c⟩
 ·rcases h2.1 with ⟨a', b', c'⟩ | ⟨a', b', c'⟩
  ·exact ⟨by rw [b, b'], by rw [c, c']⟩
  exact absurd a' a
 rcases h2.1 with ⟨a', b', c'⟩ | ⟨a', b', c'⟩
 ·exact absurd a a'
 exact ⟨by rw [b, b'], by rw [c, c']⟩
theorem EncR.ok {Lv : LS} {R : LD} {s1 : Value} {e1 : Int} {l1 : List Nat} {w1 : World} (h1 : EncR Lv R s1 e1 l1 w1) (h : EncOk Lv R) : e1 = 0 ∧ l1 = sealB (encB Lv R) := by
 rcases h1.1 with ⟨a, b, c⟩ | ⟨a, b, c⟩
 ·exact absurd h a
 exact ⟨b, c⟩
theorem EncR.ext {Lv : LS} {R : LD} {s1 : Value} {e1 : Int} {l1 : List Nat} {w1 w2 : World} (h1 : EncR Lv R s1 e1 l1 w1) (hx : Ext No w1 w2) : EncR Lv R s1 e1 l1 w2 := ⟨h1.1, Row.extNo h1.2.1 hx, h1.2.2⟩
set_option maxRecDepth 100000 in
set_option maxHeartbeats 16000000 in
theorem proofEncodes_any (tl : Value) (zs : List Int) (pvv prr : Value) (Lp : LS) (Rp : LD) (w : World) (hT : TabW w) (ht : Ints No w .i64 tl zs) (hpv : LAt kS No w pvv Lp) (hpr : LAt kD No w prr Rp) :
  Calls Tryz.prog 7 #[tl, .agg #[pvv, prr]] w (BoolPost true w) := by
 have HT := Lib.hid ht
 have HTB := Lib.hid hT
 have HPV := Lib.hid hpv
 have HPR := Lib.hid hpr
 obtain ⟨at', ct', rfl⟩ := Row.slice ht
 obtain ⟨pv, cL, rfl⟩ := hpv.slice
 obtain ⟨pr, cR, rfl⟩ := hpr.slice
 obtain ⟨nL, hnL⟩ : ∃ nL, nL = Lp.length := ⟨_, rfl⟩
 obtain ⟨nR, hnR⟩ : ∃ nR, nR = Rp.length := ⟨_, rfl⟩
 rw [← hnL] at HPV ⊢
 rw [← hnR] at HPR ⊢
 clear ht hT hpv hpr hnL hnR
 go_enter Tryz.func7, Tryz.ntmps7
 go_upto_region 1 with (fail)
 have hxv : Ext No w (w.alloc (.cells #[.slice pv nL cL, .slice pr nR cR] 29)) := (Ext.refl _ _).alloc _
 have HB0 := Lib.hid (alloc_top (w := w) (o := (.cells #[.slice pv nL cL, .slice pr nR cR] 29)) rfl)
 generalize (w.alloc (.cells #[.slice pv nL cL, .slice pr nR cR] 29)) = V at *
 generalize w.heap.size = A0 at *
 have HXV := Lib.hid hxv
 clear hxv
 go_wp2_with fail
 refine (new_any _ zs _ (Row.extNo HT.out HXV.out)).mono ?_
 rintro e0 w0 ⟨rfl, ht0, hx0, hs0⟩
 obtain ⟨tb, htb⟩ : ∃ tb, tb = V.heap.size := ⟨_, rfl⟩
 rw [← htb] at ht0 ⊢
 have HTb := Lib.hid htb
 have HT0 := Lib.hid ht0
 have HX0 := Lib.hid hx0
 clear htb ht0 hx0 hs0
 go_wp2_with fail
 go_loopw [6, 7, 8, 9, 10, 11, 12, 13, 14, 15, 16, 17, 18, 19] (fun i _ _ _ _ _ _ _ _ _ _ _ _ _ wr => ∃ k : Nat, k ≤ 5 ∧ i = .int .i64 k ∧ Hid (TapeOk wr tb ∧ Ext No V wr)) (fun i _ _ _ _ _ _ _ _ _ _ _ _ _ _ => 5 - (intOf i).toNat)
 case atStart => exact ⟨0, Nat.zero_le _, rfl, Lib.hid ⟨HT0.out, HX0.out⟩⟩
 obtain ⟨i, hi, rfl, hm⟩ := hrel
 rename World => wr
 clear HT0 HX0
 by_cases hlt : i < 5
 ·have hlz : (i : Int) < 5 := by omega
  have HII : Hid (Value.int .i64 ((i : Int) + 1) = .int .i64 ((i + 1 : Nat) : Int)) := Lib.hid (by rw [show ((i + 1 : Nat) : Int) = (i : Int) + 1 from by omega])
  go_wp2_with fail
  refine (sysgen_any tb 4 _ (by decide) (by decide) hm.out.1).mono ?_
  rintro e1 w1 ⟨S, vd, vt, vb, rfl, hw4, hn4, hS, ht1, hx1⟩
  have HOK := Lib.hid hS.out.ok
  obtain ⟨ad, cd, at1, ct, ab, cb, rfl, rfl, rfl⟩ := hS.out.slices
  have htw : tb < wr.heap.size := hm.out.1.lt
  have HS1 := Lib.hid (hS.out.mono (M' := At tb) (fun i _ e => by unfold At at e; unfold Lo; omega))
  have HX1 := Lib.hid (hm.out.2.trans2 hx1 (fun i hi e => by unfold At at e; have := HTb.out; omega))
  have HT1 := Lib.hid ht1
  have hnn := HOK.out.n2
  have hn1 := HOK.out.n1
  have hww := HOK.out.w
  clear hm hS ht1 hx1
  go_wp2_with fail
  refine (rmakeM_any (At tb) S _ _ _ w1 (fun b e => by rw [show b = tb from e]; exact HT1.out.lt) HS1.out).mono ?_
  rintro e5 w5 ⟨R, a, ar, c, cr, Rk, hF, rfl, hP, hK, hx5⟩
  obtain ⟨Lq, hLq, hLqe, hLql⟩ := hP.out.vals.list
  have hLn : Lq.length = S.deps.length := by rw [hLql, hP.out.l1]
  have HENC := Lib.hid (show EncOk Lq Rk from ⟨by rw [hLn]; exact hnn, (mk_acc HOK.out hF hP.out.l2 hK.out hLqe).1⟩)
  have hxa : Ext No w5 (w5.alloc (.cells #[.slice a S.deps.length c, .slice ar S.deps.length cr] 29)) := (Ext.refl _ _).alloc _
  have HBP := Lib.hid (alloc_top (w := w5) (o := (.cells #[.slice a S.deps.length c, .slice ar S.deps.length cr] 29)) rfl)
  have HL := Lib.hid (show LAt kS (At tb) _ (.slice a S.deps.length c) Lq from hLq.extNo hxa)
  have HPA := Lib.hid (show PrfAt (At tb) _ S (.slice a S.deps.length c) (.slice ar S.deps.length cr) (iterD S R) Rk from hP.out.extNo hxa)
  have HX5 := Lib.hid ((HX1.out.transNo hx5).transNo hxa)
  have HT5 := Lib.hid ((HT1.out.ext hx5).ext hxa)
  have HLE := Lib.hid hLqe
  have HLN := Lib.hid hLn
  have HPtb := Lib.hid (show ¬ w5.heap.size = tb from by have := (HT1.out.ext hx5).lt; omega)
  go_upto_region 6 with (fail)
  clear hF hP hK hx5 hLq hLqe hLql hLn hxa HX1 HT1 HS1
  generalize (w5.alloc (.cells #[.slice a S.deps.length c, .slice ar S.deps.length cr] 29)) = V5 at *
  generalize w5.heap.size = PB at *
  have cP := cellOf HBP.out
  go_wp2_with fail
  clear cP
  refine (spoilP_any tb S.w _ _ Lq Rk _ HL.out HPA.out.rk (set_of_map HLE.out hww (good_iter HOK.out R).lt) (by omega) (by rw [HPA.out.l2, HLN.out]) (by rw [HLN.out]; omega) (by rw [HLN.out]; omega) (rkD_lens HPA.out hww) HT5.out).mono ?_
  rintro e6 w6 ⟨vc0, vd', Lc, Rc, rfl, hLc, hRc, -, -, ht6, hx6⟩
  obtain ⟨vc, kc, rfl⟩ := hLc.out.slice
  obtain ⟨rc, jc, rfl⟩ := hRc.out.slice
  have hxc : Ext No w6 (w6.alloc (.cells #[.slice vc Lc.length kc, .slice rc Rc.length jc] 29)) := (Ext.refl _ _).alloc _
  have HLC := Lib.hid (show LAt kS No _ _ Lc from (hLc.out.extNo hxc).no')
  have HRC := Lib.hid (show LAt kD No _ _ Rc from (hRc.out.extNo hxc).no')
  have HBC := Lib.hid (alloc_top (w := w6) (o := (.cells #[.slice vc Lc.length kc, .slice rc Rc.length jc] 29)) rfl)
  have HBP6 := Lib.hid (hxc.blk (hx6.blk HBP.out (fun e => HPtb.out e)) no_no)
  have HL6 := Lib.hid (show LAt kS No _ (.slice a S.deps.length c) Lq from ((HL.out.ext hx6 (fun _ _ e => e)).extNo hxc).no')
  have HK6 := Lib.hid (show LAt kD No _ (.slice ar S.deps.length cr) Rk from ((HPA.out.rk.ext hx6 (fun _ _ e => e)).extNo hxc).no')
  have HX6 := Lib.hid ((HX5.out.trans2 hx6 (fun i hi e => by unfold At at e; have := HTb.out; omega)).transNo hxc)
  have HT6 := Lib.hid (ht6.ext hxc)
  go_upto_region 7 with (fail)
  clear hLc hRc ht6 hx6 hxc HBP HX5 HT5 HPA HL HPtb
  generalize (w6.alloc (.cells #[.slice vc Lc.length kc, .slice rc Rc.length jc] 29)) = V6 at *
  generalize w6.heap.size = CB at *
  have cP := cellOf HBP6.out
  go_wp2_with fail
  clear cP
  refine (pencode_any _ _ Lq Rk V6 (HTB.out.ext (HXV.out.transNo HX6.out)) HL6.out HK6.out).mono ?_
  rintro e7 w7 hp7
  obtain ⟨s7, z7, l7, rfl, hr7, hx7⟩ := EncPost.r hp7
  obtain ⟨a7, n7, c7, rfl⟩ := hr7.2.2
  have cP := cellOf (hx7.blk HBP6.out no_no)
  go_wp2_with fail
  clear cP
  refine (rencode_any _ _ Lq Rk w7 (HL6.out.extNo hx7) (HK6.out.extNo hx7)).mono ?_
  rintro e8 w8 hp8
  obtain ⟨s8, z8, l8, rfl, hr8, hx8⟩ := EncPost.r hp8
  obtain ⟨a8, n8, c8, rfl⟩ := hr8.2.2
  obtain ⟨rfl, hl7⟩ := hr7.ok HENC.out
  obtain ⟨rfl, hl8⟩ := hr8.ok HENC.out
  have HX8 := Lib.hid (hx7.transNo hx8)
  have HR7 := Lib.hid (hr7.ext hx8)
  have HR8 := Lib.hid hr8
  clear hp7 hp8 hx7 hx8 hr7 hr8
  have cC := cellOf (HX8.out.blk HBC.out no_no)
  go_wp2_with fail
  clear cC
  refine (pencode_any _ _ Lc Rc w8 (HTB.out.ext (HXV.out.transNo (HX6.out.transNo HX8.out))) (HLC.out.extNo HX8.out) (HRC.out.extNo HX8.out)).mono ?_
  rintro e9 w9 hp9
  obtain ⟨s9, z9, l9, rfl, hr9, hx9⟩ := EncPost.r hp9
  obtain ⟨a9, n9, c9, rfl⟩ := hr9.2.2
  have cC := cellOf (hx9.blk (HX8.out.blk HBC.out no_no) no_no)
  go_wp2_with fail
  clear cC
  refine (rencode_any _ _ Lc Rc w9 ((HLC.out.extNo HX8.out).extNo hx9) ((HRC.out.extNo HX8.out).extNo hx9)).mono ?_
  rintro e10 w10 hp10
  obtain ⟨s10, z10, l10, rfl, hr10, hx10⟩ := EncPost.r hp10
  obtain ⟨a10, n10, c10, rfl⟩ := hr10.2.2
  obtain ⟨rfl, rfl⟩ := hr9.same hr10
  have HX10 := Lib.hid (HX8.out.transNo (hx9.transNo hx10))
  have HR7b := Lib.hid (HR7.out.ext (hx9.transNo hx10))
  have HR8b := Lib.hid (HR8.out.ext (hx9.transNo hx10))
  have HR9b := Lib.hid (hr9.ext hx10)
  have HR10b := Lib.hid hr10
  clear hp9 hp10 hx9 hx10 hr9 hr10 HX8 HR7 HR8
  go_wp2_with fail
  refine (decode_any _ l7 w10 HR7b.out.2.1 (by rw [hl7]; exact sealB_byte (encB_byte Lq Rk)) (by rw [hl7]; have := enc_len HENC.out; omega)).mono ?_
  rintro e11 w11 hop
  obtain ⟨L, hL1, hL2, hL3⟩ := enc_rows HENC.out
  rcases hop with ⟨z, hz, -⟩ | ⟨L', vv, vr, Lv, Rv, -, -, hL', rfl, hv, hr, eL, eR, hx11⟩
  ·exfalso
   rw [hl7, bodyB_seal] at hz
   rcases hz with h | h | h
   ·have := sealB_len (encB Lq Rk); omega
   ·exact h.2.2 rfl
   rw [hL1] at h; exact absurd h.2.2.2 (by simp)
  rw [hl7, bodyB_seal, hL1] at hL'
  simp only [Option.some.injEq] at hL'
  subst hL'
  obtain ⟨av, cv, hvs⟩ := hv.out.slice
  obtain ⟨ax, cx, hrs⟩ := hr.out.slice
  subst hvs hrs
  have hxd : Ext No w11 (w11.alloc (.cells #[.slice av Lv.length cv, .slice ax Rv.length cx] 29)) := (Ext.refl _ _).alloc _
  have HBD := Lib.hid (alloc_top (w := w11) (o := (.cells #[.slice av Lv.length cv, .slice ax Rv.length cx] 29)) rfl)
  have HXD := Lib.hid (hx11.transNo hxd)
  have HV := Lib.hid (show SetsV No _ (.slice av Lv.length cv) S.w (iterD S R) from LAt.setsV (hv.out.extNo hxd) (by rw [eL, ← hL2]; exact HLE.out) hww (good_iter HOK.out R).lt)
  have HVR := Lib.hid (hr.out.extNo hxd)
  have HE1 := Lib.hid (show Rv.map Prod.fst = (L.map Prod.snd).map natsZ from by rw [eR, List.map_map]; rfl)
  have HE2 := Lib.hid (show Rk.map Prod.fst = (L.map Prod.snd).map natsZ from by rw [hL3, List.map_map]; rfl)
  have HL7 := Lib.hid hl7
  have HL8 := Lib.hid hl8
  clear hv hr eL eR hx11 hxd hL1 hL2 hL3 hl7 hl8
  go_upto_region 12 with (fail)
  generalize (w11.alloc (.cells #[.slice av Lv.length cv, .slice ax Rv.length cx] 29)) = V11 at *
  generalize w11.heap.size = DB at *
  have kx := conv_any (Row.extNo HR7b.out.2.1 HXD.out)
  have ky := conv_any (Row.extNo HR8b.out.2.1 HXD.out)
  have kz := conv_any (Row.extNo HR9b.out.2.1 HXD.out)
  have kw := conv_any (Row.extNo HR10b.out.2.1 HXD.out)
  rw [HL8.out, ← HL7.out] at ky
  obtain ⟨sx, hsx⟩ : ∃ s, s = strB l7 := ⟨_, rfl⟩
  obtain ⟨sz, hsz⟩ : ∃ s, s = strB l9 := ⟨_, rfl⟩
  rw [← hsx] at kx ky
  rw [← hsz] at kz kw
  have e1 := str_eq sx
  have e2 := str_eq sz
  clear hsx hsz
  have HXE := Lib.hid (HX10.out.transNo HXD.out)
  have cD := cellOf HBD.out
  have cP := cellOf (HXE.out.blk HBP6.out no_no)
  go_wp2_with fail
  clear cD cP kx ky kz kw e1 e2
  refine (sameProof_any S.w (iterD S R) (iterD S R) (L.map Prod.snd) (L.map Prod.snd) Rv Rk _ _ _ _ _ HV.out (LAt.setsV (HL6.out.extNo HXE.out) HLE.out hww (good_iter HOK.out R).lt) (by rw [(good_iter HOK.out R).len]; omega) HVR.out HE1.out (HK6.out.extNo HXE.out) HE2.out).mono ?_
  rintro e12 w12 ⟨rfl, hx12⟩
  have HXF := Lib.hid ((HX6.out.transNo HXE.out).transNo hx12)
  have HTF := Lib.hid ((HT6.out.ext HXE.out).ext hx12)
  rw [decide_eq_true ⟨rfl, rfl⟩]
  clear hx12
  go_wp2_with fail
  go_roundw
  case rel => exact ⟨i + 1, by omega, HII.out, Lib.hid ⟨HTF.out, HXF.out⟩⟩
  case measure => simp [intOf]; omega
 have hge : ¬ (i : Int) < 5 := by omega
 have HX := Lib.hid (HXV.out.transNo hm.out.2)
 have HBB := Lib.hid (hm.out.2.blk HB0.out no_no)
 clear hm
 by_cases hbig : 20 < nL ∨ 20 < nR
 ·have cB := cellOf HBB.out
  by_cases h1 : (20 : Int) < (nL : Int)
  ·go_wp2_with fail
   clear cB
   refine (sane17_any _ (HTB.out.ext HX.out)).mono ?_
   rintro e4 w4 ⟨rfl, hx4⟩
   replace HX := Lib.hid (HX.out.transNo hx4)
   clear hx4
   go_wp2_with fail
   go_ret
   exact ⟨rfl, HX.out⟩
  have h2 : (20 : Int) < (nR : Int) := by omega
  go_wp2_with fail
  clear cB
  refine (sane17_any _ (HTB.out.ext HX.out)).mono ?_
  rintro e4 w4 ⟨rfl, hx4⟩
  replace HX := Lib.hid (HX.out.transNo hx4)
  clear hx4
  go_wp2_with fail
  go_ret
  exact ⟨rfl, HX.out⟩
 have h1 : ¬ (20 : Int) < (nL : Int) := by omega
 have h2 : ¬ (20 : Int) < (nR : Int) := by omega
 have cB := cellOf HBB.out
 go_wp2_with fail
 clear cB
 refine (pencode_any _ _ Lp Rp wr (HTB.out.ext HX.out) (HPV.out.extNo HX.out) (HPR.out.extNo HX.out)).mono ?_
 rintro e9 w9 hp9
 obtain ⟨s9, z9, l9, rfl, hr9, hx9⟩ := EncPost.r hp9
 obtain ⟨a9, n9, c9, rfl⟩ := hr9.2.2
 have cC := cellOf (hx9.blk HBB.out no_no)
 go_wp2_with fail
 clear cC
 refine (rencode_any _ _ Lp Rp w9 ((HPV.out.extNo HX.out).extNo hx9) ((HPR.out.extNo HX.out).extNo hx9)).mono ?_
 rintro e10 w10 hp10
 obtain ⟨s10, z10, l10, rfl, hr10, hx10⟩ := EncPost.r hp10
 obtain ⟨a10, n10, c10, rfl⟩ := hr10.2.2
 obtain ⟨rfl, rfl⟩ := hr9.same hr10
 replace HX := Lib.hid (HX.out.transNo (hx9.transNo hx10))
 have kz := conv_any (hr9.ext hx10).2.1
 have kw := conv_any hr10.2.1
 obtain ⟨sz, hsz⟩ : ∃ s, s = strB l9 := ⟨_, rfl⟩
 rw [← hsz] at kz kw
 have e2 := str_eq sz
 clear hsz hr9 hr10 hp9 hp10 hx9 hx10
 go_wp2_with fail
 clear kz kw e2
 refine (sane17_any _ (HTB.out.ext HX.out)).mono ?_
 rintro e4 w4 ⟨rfl, hx4⟩
 replace HX := Lib.hid (HX.out.transNo hx4)
 clear hx4
 go_wp2_with fail
 go_ret
 exact ⟨rfl, HX.out⟩
